/- TOP, PLAIN LAW: numbers in the order of a rank. -/
import Derived.Lib.FieldsP
import Derived.Lib.SpaceUEq
import Derived.Lib.TrimAscii
import Derived.Lib.Join
import Derived.Lib.SlTrimSet
import Derived.Lib.Atoi
import Derived.Shelf.Strings.Split
import Derived.Shelf.Strings.Cut
import Derived.Test.YtdcgnfkkklbckaaGreatDoorZsf
import Derived.Lib.ItoaLen
import Derived.ProofKit
import Derived.ChangeOld
import Derived.DataElems
import Derived.Below
import Derived.SizedLaws
/- WORDS OF A TEXT: parts between bytes of a kind; what strings.FieldsFunc gives where blanks and line feeds part the words. No program in sight. -/
set_option linter.unusedSimpArgs false
set_option linter.unusedVariables false
namespace Go.Proofs.YtdcgnfkkklbckaaGreatDoor
namespace Pv
open Go.Lib
def splitP (p : UInt8 → Bool) : List UInt8 → List (List UInt8)
 | [] => [[]]
 | x :: xs => if p x = true then [] :: splitP p xs else match splitP p xs with
   | [] => [[x]]
   | h :: t => (x :: h) :: t
def wordsB (p : UInt8 → Bool) (l : List UInt8) : List (List UInt8) := (splitP p l).filter fun x => !x.isEmpty
def isBl (b : UInt8) : Bool := b == 32 || b == 10
theorem isBl_iff (b : UInt8) : isBl b = true ↔ b = 32 ∨ b = 10 := by simp [isBl]
theorem isBl_not {b : UInt8} (h : ¬ (b = 32 ∨ b = 10)) : isBl b = false := by
 cases hb : isBl b with
 | false => rfl
 | true => exact absurd ((isBl_iff b).1 hb) h
theorem splitP_sep (p : UInt8 → Bool) : ∀ (u : List UInt8) (c : UInt8) (t : List UInt8), (∀ x ∈ u, p x = false) → p c = true → splitP p (u ++ c :: t) = u :: splitP p t
 | [], c, t, _, hc => by simp [splitP, hc]
 | x :: u, c, t, hu, hc => by
   have ih := splitP_sep p u c t (fun y hy => hu y (List.mem_cons_of_mem _ hy)) hc
   have hx := hu x (List.mem_cons_self ..)
   simp [splitP, hx, ih]
theorem splitP_none (p : UInt8 → Bool) : ∀ (u : List UInt8), (∀ x ∈ u, p x = false) → splitP p u = [u]
 | [], _ => rfl
 | x :: u, hu => by
   have ih := splitP_none p u fun y hy => hu y (List.mem_cons_of_mem _ hy)
   have hx := hu x (List.mem_cons_self ..)
   simp [splitP, hx, ih]
theorem words_sep {p : UInt8 → Bool} {u : List UInt8} {c : UInt8} {t : List UInt8} (hu : ∀ x ∈ u, p x = false) (h0 : u ≠ []) (hc : p c = true) : wordsB p (u ++ c :: t) = u :: wordsB p t := by
 unfold wordsB
 rw [splitP_sep p u c t hu hc, List.filter_cons_of_pos (by simp [h0])]
theorem words_blank {p : UInt8 → Bool} {c : UInt8} {t : List UInt8} (hc : p c = true) : wordsB p (c :: t) = wordsB p t := by
 unfold wordsB
 rw [show c :: t = [] ++ c :: t from rfl, splitP_sep p [] c t (by simp) hc, List.filter_cons_of_neg (by simp)]
theorem words_none {p : UInt8 → Bool} {u : List UInt8} (hu : ∀ x ∈ u, p x = false) (h0 : u ≠ []) : wordsB p u = [u] := by
 unfold wordsB
 rw [splitP_none p u hu, List.filter_cons_of_pos (by simp [h0]), List.filter_nil]
theorem words_nil (p : UInt8 → Bool) : wordsB p [] = [] := rfl
theorem blank_rune (l : List UInt8) (hne : l ≠ []) (h : (decodeL l).1 = 32 ∨ (decodeL l).1 = 10) : (decodeL l).2 = 1 ∧ (l.getD 0 0 = 32 ∨ l.getD 0 0 = 10) := by
 rw [decodeL_N] at h ⊢
 have h0 := UInt8.toNat_lt (l.getD 0 0)
 have key : ∀ n b0 b1 b2 b3 : Nat, ((decodeN n b0 b1 b2 b3).1 = 32 → (decodeN n b0 b1 b2 b3).2 = 1 ∧ b0 = 32) ∧ ((decodeN n b0 b1 b2 b3).1 = 10 → (decodeN n b0 b1 b2 b3).2 = 1 ∧ b0 = 10) := by
  intro n b0 b1 b2 b3
  unfold decodeN
  repeat' split
  all_goals (refine ⟨fun h => ?_, fun h => ?_⟩ <;> dsimp only at h ⊢ <;> omega)
 rcases h with h | h
 ·obtain ⟨k1, k2⟩ := (key _ _ _ _ _).1 h
  exact ⟨k1, .inl (UInt8.toNat_inj.1 k2)⟩
 ·obtain ⟨k1, k2⟩ := (key _ _ _ _ _).2 h
  exact ⟨k1, .inr (UInt8.toNat_inj.1 k2)⟩
theorem other_rune (l : List UInt8) (hne : l ≠ []) (h : ¬ ((decodeL l).1 = 32 ∨ (decodeL l).1 = 10)) : 1 ≤ (decodeL l).2 ∧ (decodeL l).2 ≤ l.length ∧ ∀ j, j < (decodeL l).2 → ¬ (l.getD j 0 = 32 ∨ l.getD j 0 = 10) := by
 have hl : 0 < l.length := List.length_pos_iff.2 hne
 have hc := decodeN_conts l.length (l.getD 0 0).toNat (l.getD 1 0).toNat (l.getD 2 0).toNat (l.getD 3 0).toNat
 have ha : (l.getD 0 0 = 32 ∨ l.getD 0 0 = 10) → ((decodeL l).1 = 32 ∨ (decodeL l).1 = 10) := fun e => by
  rw [decodeL_N]
  rcases e with e | e
  ·rw [e, show (32 : UInt8).toNat = 32 from rfl]
   exact .inl (by unfold decodeN; rfl)
  ·rw [e, show (10 : UInt8).toNat = 10 from rfl]
   exact .inr (by unfold decodeN; rfl)
 rw [← decodeL_N] at hc
 obtain ⟨c2, c3, c4, c5⟩ := hc
 have hw := decodeL_width l
 refine ⟨hw, by omega, fun j hj e => ?_⟩
 have hlow : ∀ b : UInt8, (b = 32 ∨ b = 10) → b.toNat ≤ 32 := fun b hb => by
  rcases hb with rfl | rfl <;> decide
 have hle := hlow _ e
 match j, hj, e, hle with
 | 0, _, e, _ => exact h (ha e)
 | 1, hj, e, hle => have := (c2 (by omega)).1; omega
 | 2, hj, e, hle => have := (c3 (by omega)).1; omega
 | 3, hj, e, hle => have := (c4 (by omega)).1; omega
 | j + 4, hj, _, _ => omega
def pcs (l : List UInt8) (acc : List (Nat × Nat)) : List (List UInt8) := acc.map fun x => (l.take x.2).drop x.1
theorem spans_words (l : List UInt8) : ∀ (f pos : Nat) (st : Option Nat) (acc : List (Nat × Nat)), pos ≤ l.length → l.length ≤ f + pos → (∀ a, st = some a → a < pos ∧ ∀ j, a ≤ j → j < pos → ¬ (l.getD j 0 = 32 ∨ l.getD j 0 = 10)) →
  pcs l (closeSpans ⟨l.toArray⟩ (spansFromP (fun r => decide ((r : Int) = 32 ∨ (r : Int) = 10)) ⟨l.toArray⟩ f pos st acc)) = pcs l acc ++ wordsB isBl (l.drop (st.getD pos)) := by
 intro f
 have hsz : (⟨l.toArray⟩ : ByteArray).size = l.length := rfl
 have hfin : ∀ (st : Option Nat) (acc : List (Nat × Nat)), (∀ a, st = some a → a < l.length ∧ ∀ j, a ≤ j → j < l.length → ¬ (l.getD j 0 = 32 ∨ l.getD j 0 = 10)) → pcs l (closeSpans ⟨l.toArray⟩ (acc, st)) = pcs l acc ++ wordsB isBl (l.drop (st.getD l.length)) := by
  intro st acc hst
  cases st with
  | none => simp [closeSpans, words_nil]
  | some a =>
    obtain ⟨h1, h2⟩ := hst a rfl
    have hne : l.drop a ≠ [] := by
     intro h0
     have := congrArg List.length h0
     rw [List.length_drop] at this
     simp at this; omega
    have hno : ∀ x ∈ l.drop a, isBl x = false := fun x hx => by
     obtain ⟨k, hk⟩ := List.getElem?_of_mem hx
     rw [List.getElem?_drop] at hk
     have hlt := (List.getElem?_eq_some_iff.1 hk).1
     have := h2 (a + k) (by omega) hlt
     simp only [List.getD, hk, Option.getD_some] at this
     exact isBl_not this
    simp only [Option.getD_some]
    rw [words_none hno hne]
    simp [closeSpans, pcs, hsz]
 induction f with
 | zero =>
   intro pos st acc hp hf hst
   have : pos = l.length := by omega
   subst this
   exact hfin st acc hst
 | succ f ih =>
   intro pos st acc hp hf hst
   by_cases hlt : pos < l.length
   ·have hd := decodeL_drop ⟨l.toArray⟩ pos
    have hdt : (⟨l.toArray⟩ : ByteArray).data.toList = l := rfl
    rw [hdt] at hd
    have hne : l.drop pos ≠ [] := by
     intro h0
     have := congrArg List.length h0
     rw [List.length_drop] at this
     simp at this; omega
    unfold spansFromP
    rw [hsz, if_pos hlt, ← hd]
    have hcons : l.drop pos = l.getD pos 0 :: l.drop (pos + 1) := by
     rw [List.drop_eq_getElem_cons hlt]; simp [List.getD, hlt]
    by_cases hr : (decodeL (l.drop pos)).1 = 32 ∨ (decodeL (l.drop pos)).1 = 10
    ·obtain ⟨hk, hb⟩ := blank_rune _ hne hr
     have hb' : l.getD pos 0 = 32 ∨ l.getD pos 0 = 10 := by rw [getD_dropU] at hb; simpa using hb
     have hbl : isBl (l.getD pos 0) = true := (isBl_iff _).2 hb'
     rw [if_pos (decide_eq_true (by omega)), hk]
     cases st with
     | none =>
       show pcs l (closeSpans _ (spansFromP _ _ f (pos + 1) none acc)) = _
       rw [ih (pos + 1) none acc hlt (by omega) (fun a h => by cases h)]
       simp only [Option.getD_none]
       rw [hcons, words_blank hbl]
     | some a =>
       obtain ⟨h1, h2⟩ := hst a rfl
       show pcs l (closeSpans _ (spansFromP _ _ f (pos + 1) none (acc ++ [(a, pos)]))) = _
       rw [ih (pos + 1) none _ hlt (by omega) (fun a h => by cases h)]
       simp only [Option.getD_none, Option.getD_some]
       have hsplit : l.drop a = (l.take pos).drop a ++ l.getD pos 0 :: l.drop (pos + 1) := by
        rw [← hcons]
        have e : l = l.take pos ++ l.drop pos := (List.take_append_drop pos l).symm
        have : l.drop a = (l.take pos ++ l.drop pos).drop a := by rw [← e]
        rw [this, List.drop_append_of_le_length (by rw [List.length_take]; omega)]
       have hno : ∀ x ∈ (l.take pos).drop a, isBl x = false := fun x hx => by
        obtain ⟨k, hk⟩ := List.getElem?_of_mem hx
        rw [List.getElem?_drop, List.getElem?_take] at hk
        split at hk
        ·have := h2 (a + k) (by omega) (by omega)
         simp only [List.getD, hk, Option.getD_some] at this
         exact isBl_not this
        ·cases hk
       have hne2 : (l.take pos).drop a ≠ [] := by
        intro h0
        have := congrArg List.length h0
        rw [List.length_drop, List.length_take] at this
        simp at this; omega
       rw [hsplit, words_sep hno hne2 hbl]
       simp [pcs]
    ·obtain ⟨k1, k2, k3⟩ := other_rune _ hne hr
     rw [List.length_drop] at k2
     have k3' : ∀ j, pos ≤ j → j < pos + (decodeL (l.drop pos)).2 → ¬ (l.getD j 0 = 32 ∨ l.getD j 0 = 10) := fun j h1 h2 => by
      have := k3 (j - pos) (by omega)
      rw [getD_dropU, show pos + (j - pos) = j by omega] at this
      exact this
     rw [if_neg (fun hd => hr (by have := of_decide_eq_true hd; omega))]
     cases st with
     | none =>
       show pcs l (closeSpans _ (spansFromP _ _ f (pos + (decodeL (l.drop pos)).2) (some pos) acc)) = _
       rw [ih _ (some pos) acc (by omega) (by omega) (fun a h => by injection h with h; subst h; exact ⟨by omega, k3'⟩)]
       rfl
     | some a =>
       obtain ⟨h1, h2⟩ := hst a rfl
       show pcs l (closeSpans _ (spansFromP _ _ f (pos + (decodeL (l.drop pos)).2) (some a) acc)) = _
       rw [ih _ (some a) acc (by omega) (by omega) (fun a' h => by
        injection h with h; subst h
        refine ⟨by omega, fun j g1 g2 => ?_⟩
        by_cases e : j < pos
        ·exact h2 j g1 e
        ·exact k3' j (by omega) g2)]
       rfl
   ·have : pos = l.length := by omega
    subst this
    rw [spansFromP_end _ _ _ _ _ _ (by rw [hsz]; omega)]
    exact hfin st acc hst
theorem fields_words (s : List UInt8) : (goFieldsP (fun r => decide ((r : Int) = 32 ∨ (r : Int) = 10)) ⟨s.toArray⟩).map (fun x => x.data.toList) = wordsB isBl s := by
 have h := spans_words s s.length 0 none [] (Nat.zero_le _) (Nat.le_refl _) (fun a h => by cases h)
 simp only [Option.getD_none, List.drop_zero] at h
 have e : pcs s [] ++ wordsB isBl s = wordsB isBl s := rfl
 rw [e] at h
 rw [← h]
 unfold goFieldsP spansOfP pcs
 rw [List.map_map]
 refine List.map_congr_left fun x _ => ?_
 show ((⟨s.toArray⟩ : ByteArray).extract x.1 x.2).data.toList = _
 simp [List.extract, List.drop_take]
end Pv
end Go.Proofs.YtdcgnfkkklbckaaGreatDoor
/- LAW 13, PLAIN: words of texts: how long they are together; joined by single blanks they are the same. No program in sight. -/
set_option linter.unusedSimpArgs false
set_option linter.unusedVariables false
namespace Go.Proofs.YtdcgnfkkklbckaaGreatDoor
namespace Pv
def lensL (l : List (List UInt8)) : Nat := (l.map List.length).sum
theorem splitP_ne (p : UInt8 → Bool) (l : List UInt8) : splitP p l ≠ [] := by
 cases l with
 | nil => simp [splitP]
 | cons x xs =>
   unfold splitP
   split
   ·simp
   ·split <;> simp
theorem splitP_sum (p : UInt8 → Bool) : ∀ l : List UInt8, lensL (splitP p l) + l.countP p = l.length
 | [] => by simp [splitP, lensL]
 | x :: xs => by
   have ih := splitP_sum p xs
   have hne := splitP_ne p xs
   unfold splitP
   cases hx : p x with
   | true =>
     rw [if_pos rfl, List.countP_cons_of_pos hx]
     simp only [lensL, List.map_cons, List.length_nil, List.sum_cons, List.length_cons] at ih ⊢
     omega
   | false =>
     rw [if_neg (by simp), List.countP_cons_of_neg (by simp [hx])]
     cases hs : splitP p xs with
     | nil => exact absurd hs hne
     | cons h t =>
       rw [hs] at ih
       simp only [lensL, List.map_cons, List.sum_cons, List.length_cons] at ih ⊢
       omega
theorem filter_sum : ∀ l : List (List UInt8), lensL (l.filter fun x => !x.isEmpty) = lensL l
 | [] => rfl
 | x :: l => by
   have ih := filter_sum l
   cases x with
   | nil =>
     rw [List.filter_cons_of_neg (by simp), ih]
     simp [lensL]
   | cons b r =>
     rw [List.filter_cons_of_pos (by simp)]
     simp only [lensL, List.map_cons, List.sum_cons] at ih ⊢
     omega
theorem countP_bl : ∀ l : List UInt8, l.countP isBl = l.count 32 + l.count 10
 | [] => rfl
 | x :: l => by
   have ih := countP_bl l
   by_cases h1 : x = 32
   ·subst h1
    rw [List.countP_cons_of_pos (by rfl), List.count_cons_self, List.count_cons_of_ne (by decide), ih]; omega
   ·by_cases h2 : x = 10
    ·subst h2
     rw [List.countP_cons_of_pos (by rfl), List.count_cons_self, List.count_cons_of_ne (by decide), ih]; omega
    ·rw [List.countP_cons_of_neg (by rw [isBl_not (fun h => h.elim h1 h2)]; decide), List.count_cons_of_ne h1, List.count_cons_of_ne h2, ih]
theorem words_sum (l : List UInt8) : lensL (wordsB isBl l) + l.count 32 + l.count 10 = l.length := by
 have h1 := splitP_sum isBl l
 have h2 := filter_sum (splitP isBl l)
 have h3 := countP_bl l
 unfold wordsB
 omega
theorem splitP_mem (p : UInt8 → Bool) : ∀ (l : List UInt8) (x : List UInt8), x ∈ splitP p l → ∀ b ∈ x, p b = false
 | [], x, h, b, hb => by
   simp [splitP] at h; subst h; simp at hb
 | y :: ys, x, h, b, hb => by
   have ih := splitP_mem p ys
   unfold splitP at h
   cases hy : p y with
   | true =>
     rw [hy, if_pos rfl] at h
     rcases List.mem_cons.1 h with rfl | h
     ·simp at hb
     ·exact ih x h b hb
   | false =>
     rw [hy, if_neg (by simp)] at h
     cases hs : splitP p ys with
     | nil => exact absurd hs (splitP_ne p ys)
     | cons z t =>
       rw [hs] at h ih
       dsimp only at h
       rcases List.mem_cons.1 h with rfl | h
       ·rcases List.mem_cons.1 hb with rfl | hb
        ·exact hy
        ·exact ih z (by simp) b hb
       ·exact ih x (by simp [h]) b hb
def WordOK (p : UInt8 → Bool) (x : List UInt8) : Prop := x ≠ [] ∧ ∀ b ∈ x, p b = false
theorem words_ok (p : UInt8 → Bool) (l : List UInt8) : ∀ x ∈ wordsB p l, WordOK p x := fun x hx => by
 unfold wordsB at hx
 obtain ⟨h1, h2⟩ := List.mem_filter.1 hx
 exact ⟨by rintro rfl; simp at h2, splitP_mem p l x h1⟩
theorem words_app (p : UInt8 → Bool) (u : List UInt8) (c : UInt8) (hc : p c = true) (t : List UInt8) : wordsB p (u ++ c :: t) = wordsB p u ++ wordsB p t := by
 induction u with
 | nil => simp [words_blank hc, words_nil]
 | cons x u ih =>
   cases hx : p x with
   | true => rw [List.cons_append, words_blank hx, words_blank hx, ih]
   | false =>
     -- the part at hand
     unfold wordsB at ih ⊢
     rw [List.cons_append]
     have key : ∃ h r, splitP p u = h :: r ∧ splitP p (u ++ c :: t) = h :: (r ++ splitP p t) := by
      clear ih
      induction u with
      | nil => exact ⟨[], [], rfl, by simp [splitP, hc]⟩
      | cons y u ih2 =>
        obtain ⟨h, r, e1, e2⟩ := ih2
        cases hy : p y with
        | true =>
          refine ⟨[], splitP p u, by simp [splitP, hy], ?_⟩
          rw [List.cons_append]
          simp only [splitP, hy, if_true]
          rw [e2, e1]; rfl
        | false =>
          refine ⟨y :: h, r, by simp [splitP, hy, e1], ?_⟩
          rw [List.cons_append]
          simp [splitP, hy, e2]
     obtain ⟨h, r, e1, e2⟩ := key
     have hs : ∀ v h r, splitP p v = h :: r → splitP p (x :: v) = (x :: h) :: r := fun v h r e => by simp [splitP, hx, e]
     rw [hs _ _ _ e1, hs _ _ _ e2]
     simp
theorem words_one {p : UInt8 → Bool} {x : List UInt8} (h : WordOK p x) : wordsB p x = [x] := words_none h.2 h.1
theorem join_cons (x : List UInt8) (y : List UInt8) (r : List (List UInt8)) : [32].intercalate (x :: y :: r) = x ++ 32 :: [32].intercalate (y :: r) := by
 simp [List.intercalate, List.intersperse]
theorem words_join : ∀ {w : List (List UInt8)}, (∀ x ∈ w, WordOK isBl x) → wordsB isBl ([32].intercalate w) = w
 | [], _ => rfl
 | [x], h => by
   have : [32].intercalate [x] = x := by simp [List.intercalate]
   rw [this]
   exact words_one (h x (by simp))
 | x :: y :: r, h => by
   rw [join_cons, words_app isBl x 32 rfl, words_one (h x (by simp)), words_join (w := y :: r) (fun z hz => h z (by simp [hz]))]
   rfl
theorem join_len : ∀ (w : List (List UInt8)), ([32].intercalate w).length ≤ lensL w + w.length
 | [] => by simp [List.intercalate]
 | [x] => by simp [List.intercalate, lensL]
 | x :: y :: r => by
   have ih := join_len (y :: r)
   rw [join_cons]
   simp only [lensL, List.map_cons, List.sum_cons, List.length_append, List.length_cons] at ih ⊢
   omega
end Pv
end Go.Proofs.YtdcgnfkkklbckaaGreatDoor
/- LAW 13, PLAIN: numbers of 1 to 10 digits: by strings.Trim and strconv.Atoi, and digit by digit. No program in sight. -/
set_option linter.unusedSimpArgs false
set_option linter.unusedVariables false
namespace Go.Proofs.YtdcgnfkkklbckaaGreatDoor
namespace Pv
def digs : Int → List UInt8 → Option Int
 | a, [] => some a
 | a, c :: cs => if c.toNat < 48 ∨ 57 < c.toNat then none else digs (10 * a + ((c.toNat : Int) - 48)) cs
def numF (s : List UInt8) : Option Int := if s.length < 1 ∨ 10 < s.length then none else digs 0 s
def digT : List UInt8 := [48, 49, 50, 51, 52, 53, 54, 55, 56, 57]
theorem digT_iff (b : UInt8) : digT.contains b = true ↔ 48 ≤ b.toNat ∧ b.toNat ≤ 57 := by
 constructor
 ·intro h
  have h2 : b ∈ digT := by simpa using h
  unfold digT at h2
  simp only [List.mem_cons, List.not_mem_nil, or_false] at h2
  rcases h2 with rfl | rfl | rfl | rfl | rfl | rfl | rfl | rfl | rfl | rfl <;> decide
 ·intro ⟨h1, h2⟩
  have e : b = UInt8.ofNat b.toNat := by simp
  rw [e]
  generalize b.toNat = n at h1 h2
  have : n = 48 ∨ n = 49 ∨ n = 50 ∨ n = 51 ∨ n = 52 ∨ n = 53 ∨ n = 54 ∨ n = 55 ∨ n = 56 ∨ n = 57 := by omega
  rcases this with rfl | rfl | rfl | rfl | rfl | rfl | rfl | rfl | rfl | rfl <;> decide
theorem dropWhile_nil {α : Type} (p : α → Bool) : ∀ l : List α, l.dropWhile p = [] ↔ ∀ x ∈ l, p x = true
 | [] => by simp
 | x :: l => by
   have ih := dropWhile_nil p l
   cases h : p x with
   | true => rw [List.dropWhile_cons_of_pos h, ih]; simp [h]
   | false => rw [List.dropWhile_cons_of_neg (by simp [h])]; simp [h]
theorem dropWhile_head {α : Type} (p : α → Bool) : ∀ (l : List α) (y : α) (r : List α), l.dropWhile p = y :: r → p y = false
 | [], y, r, h => by simp at h
 | x :: l, y, r, h => by
   cases hp : p x with
   | true => rw [List.dropWhile_cons_of_pos hp] at h; exact dropWhile_head p l y r h
   | false => rw [List.dropWhile_cons_of_neg (by simp [hp])] at h; injection h with h1 _; rw [← h1]; exact hp
theorem trim_nil (s : List UInt8) : Lib.trimS s digT = [] ↔ ∀ b ∈ s, 48 ≤ b.toNat ∧ b.toNat ≤ 57 := by
 have key : Lib.trimS s digT = [] ↔ ∀ b ∈ s, digT.contains b = true := by
  unfold Lib.trimS Lib.trimLeftS Lib.trimRightS
  rw [dropWhile_nil]
  cases hd : s.reverse.dropWhile (digT.contains ·) with
  | nil =>
    have := (dropWhile_nil _ _).1 hd
    simp only [List.mem_reverse] at this
    simp only [List.reverse_nil, List.not_mem_nil, false_implies, implies_true, true_iff]
    exact this
  | cons y r =>
    have hy := dropWhile_head _ _ _ _ hd
    constructor
    ·intro h
     have := h y (by simp)
     rw [hy] at this; cases this
    ·intro h
     have hm : y ∈ s.reverse.dropWhile (digT.contains ·) := by rw [hd]; simp
     have := h y (by
      have := (List.dropWhile_sublist _).subset hm
      simpa using this)
     rw [hy] at this; cases this
 rw [key]
 exact ⟨fun h b hb => (digT_iff b).1 (h b hb), fun h b hb => (digT_iff b).2 (h b hb)⟩
theorem digs_none : ∀ (s : List UInt8) (a : Int), digs a s = none ↔ ¬ ∀ b ∈ s, 48 ≤ b.toNat ∧ b.toNat ≤ 57
 | [], a => by simp [digs]
 | c :: cs, a => by
   have ih := digs_none cs
   unfold digs
   split
   ·rename_i h
    simp only [List.mem_cons, forall_eq_or_imp, true_iff]
    intro hh; omega
   ·rename_i h
    rw [ih]
    simp only [List.mem_cons, forall_eq_or_imp]
    constructor
    ·intro h1 h2; exact h1 h2.2
    ·intro h1 h2; exact h1 ⟨by omega, h2⟩
theorem digs_dec : ∀ (s : List UInt8) (a : Nat) (n : Int), digs a s = some n → ∃ m : Nat, n = m ∧ Lib.decFrom a s = some m ∧ m < (a + 1) * 10 ^ s.length
 | [], a, n, h => by
   simp only [digs, Option.some.injEq] at h
   exact ⟨a, h.symm, rfl, by simp⟩
 | c :: cs, a, n, h => by
   unfold digs at h
   split at h
   ·cases h
   ·rename_i hc
    have e : 10 * (a : Int) + ((c.toNat : Int) - 48) = ((a * 10 + (c.toNat - 48) : Nat) : Int) := by omega
    rw [e] at h
    obtain ⟨m, h1, h2, h3⟩ := digs_dec cs _ n h
    refine ⟨m, h1, ?_, ?_⟩
    ·unfold Lib.decFrom Lib.digitVal
     rw [if_pos (by omega)]
     exact h2
    ·rw [List.length_cons, Nat.pow_succ]
     have h4 : a * 10 + (c.toNat - 48) + 1 ≤ (a + 1) * 10 := by omega
     have h5 := Nat.mul_le_mul_right (10 ^ cs.length) h4
     have h6 : (a + 1) * 10 * 10 ^ cs.length = (a + 1) * (10 ^ cs.length * 10) := by rw [Nat.mul_assoc, Nat.mul_comm 10]
     omega
theorem num_atoi {s : List UInt8} {n : Int} (h : numF s = some n) : Lib.atoi s = some n ∧ 0 ≤ n ∧ n < 10000000000 := by
 unfold numF at h
 split at h
 ·cases h
 rename_i hl
 obtain ⟨m, h1, h2, h3⟩ := digs_dec s 0 n h
 have hall : ∀ b ∈ s, 48 ≤ b.toNat ∧ b.toNat ≤ 57 := Classical.byContradiction fun hc => by
  rw [(digs_none s 0).2 hc] at h; cases h
 cases s with
 | nil => simp at hl
 | cons b r =>
   have hb := hall b (by simp)
   have hp : 10 ^ (b :: r).length ≤ 10 ^ 10 := Nat.pow_le_pow_right (by decide) (by omega)
   refine ⟨?_, by omega, ?_⟩
   ·show (if b == 45 then (Lib.decNat r).map (fun (m : Nat) => -(m : Int)) else if b == 43 then (Lib.decNat r).map (fun (m : Nat) => (m : Int)) else (Lib.decNat (b :: r)).map fun (m : Nat) => (m : Int)) = some n
    rw [if_neg (by intro e; have := eq_of_beq e; subst this; revert hb; decide), if_neg (by intro e; have := eq_of_beq e; subst this; revert hb; decide)]
    unfold Lib.decNat
    rw [show (b :: r).isEmpty = false from rfl, if_neg (by decide)]
    have h2' : Lib.decFrom 0 (b :: r) = some m := h2
    rw [h2', h1]; rfl
   ·have e10 : (10 : Nat) ^ 10 = 10000000000 := by decide
    omega
theorem num_none (s : List UInt8) : numF s = none ↔ s.length = 0 ∨ 10 < s.length ∨ Lib.trimS s digT ≠ [] := by
 unfold numF
 by_cases h : s.length < 1 ∨ 10 < s.length
 ·rw [if_pos h]
  simp only [true_iff]
  rcases h with h | h
  ·exact .inl (by omega)
  ·exact .inr (.inl h)
 ·rw [if_neg h, digs_none]
  rw [ne_eq, trim_nil]
  constructor
  ·exact fun h2 => .inr (.inr h2)
  ·rintro (h2 | h2 | h2)
   ·omega
   ·omega
   ·exact h2
end Pv
end Go.Proofs.YtdcgnfkkklbckaaGreatDoor
/- PLAIN: texts cut at a byte. -/
set_option linter.unusedSimpArgs false
set_option linter.unusedVariables false
namespace Go.Proofs.YtdcgnfkkklbckaaGreatDoor
namespace Pv
def splitC (c : UInt8) : List UInt8 → List (List UInt8)
 | [] => [[]]
 | x :: xs => if x = c then [] :: splitC c xs else match splitC c xs with
   | [] => [[x]]
   | h :: t => (x :: h) :: t
def brkC (c : UInt8) : List UInt8 → List UInt8 × List UInt8 × Bool
 | [] => ([], [], false)
 | x :: xs => if x = c then ([], xs, true) else (x :: (brkC c xs).1, (brkC c xs).2)
theorem splitC_ne (c : UInt8) (s : List UInt8) : splitC c s ≠ [] := by
 cases s with
 | nil => simp [splitC]
 | cons x xs =>
   unfold splitC
   split
   ·simp
   ·split <;> simp
theorem splitC_brk (c : UInt8) : ∀ s : List UInt8, splitC c s = if (brkC c s).2.2 = true then (brkC c s).1 :: splitC c (brkC c s).2.1 else [s]
 | [] => rfl
 | x :: xs => by
   by_cases h : x = c
   ·simp [splitC, brkC, h]
   ·have ih := splitC_brk c xs
    simp only [splitC, brkC, if_neg h]
    by_cases h2 : (brkC c xs).2.2 = true
    ·rw [if_pos h2] at ih ⊢
     rw [ih]
    ·rw [if_neg h2] at ih ⊢
     rw [ih]
theorem brkC_len (c : UInt8) : ∀ s : List UInt8, (brkC c s).1.length ≤ s.length ∧ (brkC c s).2.1.length ≤ s.length ∧ ((brkC c s).2.2 = true → (brkC c s).1.length + 1 + (brkC c s).2.1.length = s.length)
 | [] => by simp [brkC]
 | x :: xs => by
   have ih := brkC_len c xs
   unfold brkC
   split
   ·simp; omega
   ·simp only [List.length_cons]
    refine ⟨by omega, by omega, fun h => ?_⟩
    have := ih.2.2 h
    omega
theorem splitC_len (c : UInt8) : ∀ s : List UInt8, (splitC c s).length ≤ s.length + 1 ∧ ∀ x ∈ splitC c s, x.length ≤ s.length
 | [] => by simp [splitC]
 | x :: xs => by
   have ih := splitC_len c xs
   unfold splitC
   split
   ·refine ⟨by simp; omega, fun y hy => ?_⟩
    rcases List.mem_cons.1 hy with rfl | hy
    ·simp
    ·have := ih.2 y hy; simp; omega
   ·split
    ·simp
    ·rename_i h t e
     rw [e] at ih
     refine ⟨by simp at ih ⊢; omega, fun y hy => ?_⟩
     rcases List.mem_cons.1 hy with rfl | hy
     ·have := ih.2 h (by simp); simp; omega
     ·have := ih.2 y (by simp [hy]); simp; omega
theorem index_cons_eq (c : UInt8) (l : List UInt8) : Lib.index (c :: l) [c] = 0 := by rw [Lib.index]; simp [List.isPrefixOf]
theorem index_cons_ne (b c : UInt8) (l : List UInt8) (h : b ≠ c) : Lib.index (b :: l) [c] = if Lib.index l [c] == -1 then -1 else Lib.index l [c] + 1 := by
 have hp : ([c] : List UInt8).isPrefixOf (b :: l) = false := by simp [List.isPrefixOf, Ne.symm h]
 rw [Lib.index, hp]; simp
theorem cut_brk (c : UInt8) : ∀ s : List UInt8, Lib.cut s [c] = brkC c s
 | [] => by simp [Lib.cut, Lib.index, brkC]
 | b :: l => by
   have ih := cut_brk c l
   have hge := Lib.index_ge l [c]
   by_cases h : b = c
   ·subst h
    unfold Lib.cut brkC
    rw [index_cons_eq, if_pos (by decide), if_pos rfl]
    rfl
   ·unfold brkC
    rw [if_neg h, ← ih]
    unfold Lib.cut
    rw [index_cons_ne b c l h]
    by_cases hm : Lib.index l [c] = -1
    ·rw [hm]; rfl
    ·obtain ⟨j, hj⟩ : ∃ j : Nat, Lib.index l [c] = j := ⟨(Lib.index l [c]).toNat, by omega⟩
     have e0 : (if (Lib.index l [c] == -1) = true then (-1 : Int) else Lib.index l [c] + 1) = (j : Int) + 1 := by rw [if_neg (by simpa using hm), hj]
     rw [e0, hj, if_pos (by omega), if_pos (by omega)]
     have e1 : ((j : Int) + 1).toNat = j + 1 := by omega
     have e2 : (j : Int).toNat = j := by omega
     rw [e1, e2]
     simp [Nat.add_assoc]
theorem splitK_C (c : UInt8) : ∀ s : List UInt8, Lib.splitK [c] 0 (Lib.count s [c]) s = splitC c s
 | [] => by rw [Lib.count_one]; rfl
 | b :: l => by
   have ih := splitK_C c l
   have hge := Lib.index_ge l [c]
   by_cases h : b = c
   ·subst h
    rw [Lib.count_cons_eq, Nat.add_comm, Lib.splitK, index_cons_eq]
    simp only [splitC, if_pos]
    have e : ((0 : Int) == -1) = false := by decide
    rw [e]
    simpa using ih
   ·rw [Lib.count_cons_ne b c l h]
    unfold splitC
    rw [if_neg h, ← ih]
    by_cases hm : Lib.index l [c] = -1
    ·rw [Lib.count_miss hm]
     rfl
    ·obtain ⟨j, hj⟩ : ∃ j : Nat, Lib.index l [c] = j := ⟨(Lib.index l [c]).toNat, by omega⟩
     rw [Lib.count_hit (by simp) hj, Nat.add_comm, Lib.splitK, Lib.splitK, index_cons_ne b c l h, hj]
     have e1 : ((j : Int) == -1) = false := beq_eq_false_iff_ne.2 (by omega)
     have e2 : (((j : Int) + 1) == -1) = false := beq_eq_false_iff_ne.2 (by omega)
     have e3 : ((j : Int) + 1).toNat = j + 1 := by omega
     have e4 : (j : Int).toNat = j := by omega
     rw [e1]
     simp only [Bool.false_eq_true, if_false]
     rw [e2]
     simp only [Bool.false_eq_true, if_false, e3, e4, Nat.add_zero]
     simp [Nat.add_assoc, Nat.add_comm 1 1]
end Pv
end Go.Proofs.YtdcgnfkkklbckaaGreatDoor
/- LAW 13, PLAIN: conditions as text, and read back. No program in sight. -/
set_option linter.unusedSimpArgs false
set_option linter.unusedVariables false
namespace Go.Proofs.YtdcgnfkkklbckaaGreatDoor
namespace Pv
theorem splitC_clean {c : UInt8} : ∀ {a : List UInt8}, (∀ x ∈ a, x ≠ c) → splitC c a = [a]
 | [], _ => rfl
 | x :: xs, h => by
   have ih := splitC_clean (c := c) (a := xs) (fun y hy => h y (by simp [hy]))
   simp only [splitC, if_neg (h x (by simp)), ih]
theorem splitC_cut {c : UInt8} {r : List UInt8} : ∀ {a : List UInt8}, (∀ x ∈ a, x ≠ c) → splitC c (a ++ c :: r) = a :: splitC c r
 | [], _ => by simp [splitC]
 | x :: xs, h => by
   have ih := splitC_cut (c := c) (r := r) (a := xs) (fun y hy => h y (by simp [hy]))
   simp only [List.cons_append, splitC, if_neg (h x (by simp)), ih]
/-! ### numerals -/
theorem dig_nat {d : Nat} (h : d < 10) : (UInt8.ofNat (48 + d)).toNat = 48 + d := by
 rw [UInt8.toNat_ofNat']; omega
theorem decDigits_small {u : Nat} (h : u < 10) : Lib.decDigits u = [UInt8.ofNat (48 + u)] := by rw [Lib.decDigits, dif_pos h]
theorem decDigits_big {u : Nat} (h : ¬ u < 10) : Lib.decDigits u = Lib.decDigits (u / 10) ++ [UInt8.ofNat (48 + u % 10)] := by rw [Lib.decDigits, dif_neg h]
theorem decDigits_dig (u : Nat) : ∀ x ∈ Lib.decDigits u, 48 ≤ x.toNat ∧ x.toNat ≤ 57 := by
 induction u using Nat.strongRecOn with
 | ind u ih =>
   intro x hx
   by_cases h : u < 10
   ·rw [decDigits_small h, List.mem_singleton] at hx
    rw [hx, dig_nat h]; omega
   ·rw [decDigits_big h, List.mem_append, List.mem_singleton] at hx
    rcases hx with hx | hx
    ·exact ih (u / 10) (by omega) x hx
    ·rw [hx, dig_nat (by omega)]; omega
theorem digs_snoc : ∀ {s : List UInt8} {a : Int} {d : Nat}, d < 10 → digs a (s ++ [UInt8.ofNat (48 + d)]) = (digs a s).map fun b => 10 * b + (d : Int)
 | [], a, d, h => by
   simp only [List.nil_append, digs, dig_nat h, Option.map_some]
   rw [if_neg (by omega)]
   congr 1
   omega
 | c :: cs, a, d, h => by
   simp only [List.cons_append, digs]
   split
   ·rfl
   ·exact digs_snoc h
theorem digs_decD (u : Nat) : digs 0 (Lib.decDigits u) = some (u : Int) := by
 induction u using Nat.strongRecOn with
 | ind u ih =>
   by_cases h : u < 10
   ·rw [decDigits_small h]
    have := digs_snoc (s := []) (a := 0) h
    rw [List.nil_append] at this
    rw [this]
    simp [digs]
   ·rw [decDigits_big h, digs_snoc (by omega), ih (u / 10) (by omega)]
    simp only [Option.map_some]
    congr 1
    omega
theorem decDigits_len {k : Nat} : ∀ {u : Nat}, 1 ≤ k → u < 10 ^ k → (Lib.decDigits u).length ≤ k := by
 induction k with
 | zero => intro u h; omega
 | succ k ih =>
   intro u _ hu
   by_cases h : u < 10
   ·rw [decDigits_small h]; simp
   ·rw [decDigits_big h, List.length_append]
    have hk : 1 ≤ k := by
     rcases k with _ | k
     ·simp at hu; omega
     ·omega
    have h2 : u / 10 < 10 ^ k := by
     rw [Nat.div_lt_iff_lt_mul (by decide), ← Nat.pow_succ]; exact hu
    have := ih hk h2
    simp only [List.length_cons, List.length_nil]; omega
theorem decDigits_ne (u : Nat) : 1 ≤ (Lib.decDigits u).length := by
 by_cases h : u < 10
 ·rw [decDigits_small h]; simp
 ·rw [decDigits_big h]; simp
theorem decDigits_head (u : Nat) (h1 : 1 ≤ u) : ((Lib.decDigits u).getD 0 0).toNat ≠ 48 := by
 induction u using Nat.strongRecOn with
 | ind u ih =>
   by_cases h : u < 10
   ·rw [decDigits_small h]
    show (UInt8.ofNat (48 + u)).toNat ≠ 48
    rw [dig_nat h]; omega
   ·have h2 := ih (u / 10) (by omega) (by omega)
    have h3 := decDigits_ne (u / 10)
    rw [decDigits_big h, List.getD_eq_getElem?_getD, List.getElem?_append_left (by omega), ← List.getD_eq_getElem?_getD]
    exact h2
theorem itoa_clean {n : Int} (h0 : 0 ≤ n) : ∀ x ∈ Lib.itoa n, x ≠ 32 ∧ x ≠ 10 := fun x hx => by
 have he : Lib.itoa n = Lib.decDigits n.toNat := by unfold Lib.itoa; rw [if_neg (by omega)]
 rw [he] at hx
 have := decDigits_dig _ x hx
 refine ⟨fun e => ?_, fun e => ?_⟩ <;> (subst e; revert this; decide)
theorem itoa_num {n : Int} (h0 : 0 ≤ n) : ∀ x ∈ Lib.itoa n, 48 ≤ x.toNat ∧ x.toNat ≤ 57 := fun x hx => by
 have he : Lib.itoa n = Lib.decDigits n.toNat := by unfold Lib.itoa; rw [if_neg (by omega)]
 rw [he] at hx
 exact decDigits_dig _ x hx
theorem itoa_word {n : Int} (h0 : 0 ≤ n) {x : UInt8} {r : List UInt8} (hx : 57 < x.toNat) : Lib.itoa n ≠ x :: r := fun e => by
 have := itoa_num h0 x (by rw [e]; simp)
 omega
theorem numF_itoa {n : Int} (h0 : 0 ≤ n) (h1 : n ≤ 1073741824) : numF (Lib.itoa n) = some n := by
 have he : Lib.itoa n = Lib.decDigits n.toNat := by unfold Lib.itoa; rw [if_neg (by omega)]
 have hl := decDigits_len (k := 10) (u := n.toNat) (by decide) (by
  have : n.toNat ≤ 1073741824 := by omega
  exact Nat.lt_of_le_of_lt this (by decide))
 have hn := decDigits_ne n.toNat
 rw [he]
 unfold numF
 rw [if_neg (by omega), digs_decD]
 congr 1; omega
def wRank : List UInt8 := [114, 97, 110, 107]
def wLeast : List UInt8 := [108, 101, 97, 115, 116]
def wMost : List UInt8 := [109, 111, 115, 116]
def wUp : List UInt8 := [117, 112]
def wDown : List UInt8 := [100, 111, 119, 110]
def wDays : List UInt8 := [100, 97, 121, 115]
def wAbove : List UInt8 := [97, 98, 111, 118, 101]
def wBelow : List UInt8 := [98, 101, 108, 111, 119]
def kindW (k : Int) : List UInt8 := if k = 1 then wLeast else if k = 2 then wMost else if k = 3 then wUp else if k = 4 then wDown else []
def kindOf (w : List UInt8) : Int := if w = wLeast then 1 else if w = wMost then 2 else if w = wUp then 3 else if w = wDown then 4 else 0
def badC (c : Cd) : Prop := ¬ (0 ≤ c.v ∧ c.v ≤ 1073741824) ∨ ¬ ((0 ≤ c.f ∧ c.f ≤ 364) ∧ 0 ≤ c.u ∧ c.u ≤ 364) ∨ ¬ (0 ≤ c.a ∧ c.a ≤ 16777216) ∨ ¬ (0 ≤ c.b ∧ c.b ≤ 16777216) ∨ c.b < c.a
instance (c : Cd) : Decidable (badC c) := by unfold badC; infer_instance
def oneC (c : Cd) : Int := if c.r < 1 ∨ 9 < c.r then 1 else if c.k < 1 ∨ 4 < c.k then 5 else if badC c then 1 else 0
theorem oneC_ok {c : Cd} (h : oneC c = 0) : (1 ≤ c.r ∧ c.r ≤ 9) ∧ (1 ≤ c.k ∧ c.k ≤ 4) ∧ ¬ badC c := by
 unfold oneC at h
 split at h
 ·cases h
 split at h
 ·cases h
 split at h
 ·cases h
 ·exact ⟨by omega, by omega, by assumption⟩
def partsO : Cd → Bool → Bool → Bool → List (List UInt8) → Option Cd
 | c, _, _, _, [] => some c
 | _, _, _, _, [_] => none
 | c, d, a, b, w :: x :: r =>
   if w = wDays then if d = true then none else match r with
    | [] => none
    | y :: r' => match numF x, numF y with
      | some m, some n => partsO { c with f := m, u := n } true a b r'
      | _, _ => none
   else if w = wAbove then if a = true then none else match numF x with
    | some m => partsO { c with a := m } d true b r
    | none => none
   else if w = wBelow then if b = true then none else match numF x with
    | some m => partsO { c with b := m } d a true r
    | none => none
   else none
def condO : List (List UInt8) → Option Cd
 | rk :: x :: kd :: y :: r => if rk = wRank then match numF x, numF y with
   | some m, some n => if kindOf kd = 0 then none else partsO ⟨m, kindOf kd, n, 0, 364, 0, 16777216⟩ false false false r
   | _, _ => none
   else none
 | _ => none
def daysW (c : Cd) : List (List UInt8) := if c.f = 0 ∧ c.u = 364 then [] else [wDays, Lib.itoa c.f, Lib.itoa c.u]
def aboveW (c : Cd) : List (List UInt8) := if c.a = 0 then [] else [wAbove, Lib.itoa c.a]
def belowW (c : Cd) : List (List UInt8) := if c.b = 16777216 then [] else [wBelow, Lib.itoa c.b]
def wordsOf (c : Cd) : List (List UInt8) := [wRank, Lib.itoa c.r, kindW c.k, Lib.itoa c.v] ++ (daysW c ++ (aboveW c ++ belowW c))
theorem kind_back {k : Int} (h : 1 ≤ k ∧ k ≤ 4) : kindOf (kindW k) = k := by
 have : k = 1 ∨ k = 2 ∨ k = 3 ∨ k = 4 := by omega
 rcases this with rfl | rfl | rfl | rfl <;> decide
theorem below_back (c : Cd) (d a : Bool) (h : 0 ≤ c.b ∧ c.b ≤ 16777216) (e : Cd) (he : { e with b := c.b } = c) (h0 : c.b = 16777216 → e = c) : partsO e d a false (belowW c) = some c := by
 unfold belowW
 split
 ·rename_i hb
  unfold partsO
  rw [h0 hb]
 ·unfold partsO
  rw [if_neg (by decide), if_neg (by decide), if_pos rfl, if_neg (by decide), numF_itoa h.1 (by omega)]
  dsimp only
  rw [he]
  unfold partsO
  rfl
theorem above_back (c : Cd) (d : Bool) (h : 0 ≤ c.a ∧ c.a ≤ 16777216) (hb : 0 ≤ c.b ∧ c.b ≤ 16777216) (e : Cd) (he : { e with a := c.a, b := c.b } = c) (h0 : e.a = 0) (h1 : e.b = 16777216) : partsO e d false false (aboveW c ++ belowW c) = some c := by
 unfold aboveW
 split
 ·rename_i ha
  rw [List.nil_append]
  refine below_back c d false hb e ?_ fun h2 => ?_
  ·rw [← he]; cases e; dsimp only at h0 he ⊢; subst h0; congr
   rw [← ha]
  ·rw [← he]; cases e; dsimp only at h0 h1 ⊢; subst h0; subst h1; rw [ha, h2]
 ·show partsO e d false false (wAbove :: Lib.itoa c.a :: belowW c) = _
  unfold partsO
  rw [if_neg (by decide), if_pos rfl, if_neg (by decide), numF_itoa h.1 (by omega)]
  dsimp only
  refine below_back c d true hb _ ?_ fun h2 => ?_
  ·rw [← he]
  ·rw [← he]; cases e; dsimp only at h1 ⊢; subst h1; rw [h2]
theorem cond_back {c : Cd} (h : oneC c = 0) : condO (wordsOf c) = some c := by
 obtain ⟨h1, h2, h3⟩ := oneC_ok h
 unfold badC at h3
 have hk := kind_back h2
 show condO (wRank :: Lib.itoa c.r :: kindW c.k :: Lib.itoa c.v :: (daysW c ++ (aboveW c ++ belowW c))) = _
 unfold condO
 dsimp only
 rw [if_pos rfl, numF_itoa (by omega) (by omega), numF_itoa (by omega) (by omega)]
 dsimp only
 rw [hk, if_neg (by omega)]
 unfold daysW
 split
 ·rename_i hd
  rw [List.nil_append]
  refine above_back c false (by omega) (by omega) _ ?_ rfl rfl
  rw [← hd.1, ← hd.2]
 ·show partsO _ false false false (wDays :: Lib.itoa c.f :: Lib.itoa c.u :: (aboveW c ++ belowW c)) = _
  unfold partsO
  rw [if_pos rfl, if_neg (by decide)]
  dsimp only
  rw [numF_itoa (by omega) (by omega), numF_itoa (by omega) (by omega)]
  dsimp only
  exact above_back c true (by omega) (by omega) _ rfl rfl rfl
end Pv
end Go.Proofs.YtdcgnfkkklbckaaGreatDoor
/- LAW 13, THE WALKS: the first error of a condition, of conditions. -/
set_option linter.unusedSimpArgs false
set_option linter.unusedVariables false
namespace Go.Proofs.YtdcgnfkkklbckaaGreatDoor
namespace Pv
def c56 : C := (.seq (.reg [⟨some 4, 64, none, .mv (.c (.bool false))⟩])
 (.seq (.reg [⟨some 5, 80, none, .mv (.t 0)⟩,⟨some 6, 96, none, .bi false .geq (.t 5) (.c (.int .i64 0))⟩,⟨some 7, 112, none, .mv (.t 6)⟩,⟨some 8, 128, (some (7, true)), .mv (.t 0)⟩,⟨some 9, 144, (some (7, true)), .mv (.t 1)⟩,⟨some 10, 160, (some (7, true)), .bi false .leq (.t 8) (.t 9)⟩,⟨some 11, 176, none, .pick (.t 7) (.t 10) (.c (.bool false))⟩,⟨some 4, 64, none, .mv (.t 11)⟩])
 .ret))
theorem fits56 : fits Tryz.prog false Tryz.f56 2 12 [(4, none)] = some c56.er := by kernel_rfl
def c139 : C := (.seq (.reg [⟨some 2, 32, none, .mv (.c (.bool false))⟩])
 (.seq (.reg [⟨some 3, 48, none, .mv (.t 0)⟩,⟨some 4, 64, none, .call (.c (.fn (.func 56) [] [])) [(.t 3), (.c (.int .i64 364))]⟩,⟨some 2, 32, none, .mv (.t 4)⟩])
 .ret))
theorem fits139 : fits Tryz.prog false Tryz.f139 1 5 [(2, none)] = some c139.er := by kernel_rfl
def c137 : C := (.seq (.reg [⟨some 1, 16, none, .bx 2 (.t 0)⟩,⟨some 2, 32, none, .mv (.c (.bool false))⟩])
 (.seq (.reg [⟨some 3, 48, none, .fa 0 (.t 1)⟩,⟨some 4, 64, none, .ld 1 false (.t 3)⟩,⟨some 5, 80, none, .call (.c (.fn (.func 139) [] [])) [(.t 4)]⟩,⟨some 6, 96, none, .mv (.t 5)⟩,⟨some 7, 112, (some (6, true)), .fa 1 (.t 1)⟩,⟨some 8, 128, (some (6, true)), .ld 1 false (.t 7)⟩,⟨some 9, 144, (some (6, true)), .call (.c (.fn (.func 139) [] [])) [(.t 8)]⟩,⟨some 10, 160, none, .pick (.t 6) (.t 9) (.c (.bool false))⟩,⟨some 2, 32, none, .mv (.t 10)⟩])
 .ret))
theorem fits137 : fits Tryz.prog false Tryz.f137 1 11 [(2, none)] = some c137.er := by kernel_rfl
def c136 : C := (.seq (.reg [⟨some 2, 32, none, .mv (.c (.bool false))⟩])
 (.seq (.reg [⟨some 3, 48, none, .mv (.t 0)⟩,⟨some 4, 64, none, .call (.c (.fn (.func 56) [] [])) [(.t 3), (.c (.int .i64 16777216))]⟩,⟨some 2, 32, none, .mv (.t 4)⟩])
 .ret))
theorem fits136 : fits Tryz.prog false Tryz.f136 1 5 [(2, none)] = some c136.er := by kernel_rfl
def c70 : C := (.seq (.reg [⟨some 1, 16, none, .bx 7 (.t 0)⟩,⟨some 2, 32, none, .mv (.c (.int .i64 0))⟩])
 (.seq (.reg [⟨some 3, 48, none, .mv (.c (.fn (.func 136) [] []))⟩])
 (.seq (.block 0 (.seq (.reg [⟨some 5, 80, none, .fa 0 (.t 1)⟩,⟨some 6, 96, none, .ld 1 false (.t 5)⟩,⟨some 7, 112, none, .bi false .lss (.t 6) (.c (.int .i64 1))⟩,⟨some 8, 128, none, .mv (.t 7)⟩,⟨some 9, 144, (some (8, false)), .fa 0 (.t 1)⟩,⟨some 10, 160, (some (8, false)), .ld 1 false (.t 9)⟩,⟨some 11, 176, (some (8, false)), .bi false .gtr (.t 10) (.c (.int .i64 9))⟩,⟨some 12, 192, none, .pick (.t 8) (.c (.bool true)) (.t 11)⟩,⟨some 4, 64, none, .mv (.t 12)⟩])
 (.cond (.t 4) (.seq (.reg [⟨some 2, 32, none, .mv (.c (.int .i64 1))⟩])
 .ret) (.seq (.reg [⟨some 14, 224, none, .fa 1 (.t 1)⟩,⟨some 15, 240, none, .ld 1 false (.t 14)⟩,⟨some 16, 256, none, .bi false .lss (.t 15) (.c (.int .i64 1))⟩,⟨some 17, 272, none, .mv (.t 16)⟩,⟨some 18, 288, (some (17, false)), .fa 1 (.t 1)⟩,⟨some 19, 304, (some (17, false)), .ld 1 false (.t 18)⟩,⟨some 20, 320, (some (17, false)), .bi false .gtr (.t 19) (.c (.int .i64 4))⟩,⟨some 21, 336, none, .pick (.t 17) (.c (.bool true)) (.t 20)⟩,⟨some 13, 208, none, .mv (.t 21)⟩])
 (.cond (.t 13) (.seq (.reg [⟨some 2, 32, none, .mv (.c (.int .i64 5))⟩])
 .ret) (.seq (.reg [⟨some 23, 368, none, .fa 2 (.t 1)⟩,⟨some 24, 384, none, .ld 1 false (.t 23)⟩,⟨some 25, 400, none, .call (.c (.fn (.func 56) [] [])) [(.t 24), (.c (.int .i64 1073741824))]⟩,⟨some 26, 416, none, .un false .not (.t 25)⟩,⟨some 27, 432, none, .mv (.t 26)⟩,⟨some 28, 448, (some (27, false)), .fa 3 (.t 1)⟩,⟨some 29, 464, (some (27, false)), .ld 2 true (.t 28)⟩,⟨some 30, 480, (some (27, false)), .call (.c (.fn (.func 137) [] [])) [(.t 29)]⟩,⟨some 31, 496, (some (27, false)), .un false .not (.t 30)⟩,⟨some 32, 512, none, .pick (.t 27) (.c (.bool true)) (.t 31)⟩,⟨some 33, 528, none, .mv (.t 32)⟩,⟨some 34, 544, (some (33, false)), .mv (.t 3)⟩,⟨some 35, 560, (some (33, false)), .fa 5 (.t 1)⟩,⟨some 36, 576, (some (33, false)), .ld 1 false (.t 35)⟩,⟨some 37, 592, (some (33, false)), .call (.t 34) [(.t 36)]⟩,⟨some 38, 608, (some (33, false)), .un false .not (.t 37)⟩,⟨some 39, 624, none, .pick (.t 33) (.c (.bool true)) (.t 38)⟩,⟨some 40, 640, none, .mv (.t 39)⟩,⟨some 41, 656, (some (40, false)), .mv (.t 3)⟩,⟨some 42, 672, (some (40, false)), .fa 6 (.t 1)⟩,⟨some 43, 688, (some (40, false)), .ld 1 false (.t 42)⟩,⟨some 44, 704, (some (40, false)), .call (.t 41) [(.t 43)]⟩,⟨some 45, 720, (some (40, false)), .un false .not (.t 44)⟩,⟨some 46, 736, none, .pick (.t 40) (.c (.bool true)) (.t 45)⟩,⟨some 47, 752, none, .mv (.t 46)⟩,⟨some 48, 768, (some (47, false)), .fa 5 (.t 1)⟩,⟨some 49, 784, (some (47, false)), .ld 1 false (.t 48)⟩,⟨some 50, 800, (some (47, false)), .fa 6 (.t 1)⟩,⟨some 51, 816, (some (47, false)), .ld 1 false (.t 50)⟩,⟨some 52, 832, (some (47, false)), .bi false .gtr (.t 49) (.t 51)⟩,⟨some 53, 848, none, .pick (.t 47) (.c (.bool true)) (.t 52)⟩,⟨some 22, 352, none, .mv (.t 53)⟩])
 (.cond (.t 22) (.seq (.reg [⟨some 2, 32, none, .mv (.c (.int .i64 1))⟩])
 .ret) .skip)))))))
 (.seq (.reg [⟨some 2, 32, none, .mv (.c (.int .i64 0))⟩])
 .ret))))
theorem fits70 : fits Tryz.prog false Tryz.f70 1 54 [(2, none)] = some c70.er := by kernel_rfl
def c62L1 : C := (.seq (.reg [⟨some 12, 192, none, .bi false .lss (.t 11) (.t 10)⟩])
 (.seq (.cond (.t 12) .skip (.exit 0))
 (.seq (.block 1 (.seq (.reg [⟨some 13, 208, none, .ia 7 (.t 9) (.t 11)⟩,⟨some 14, 224, none, .ld 7 true (.t 13)⟩,⟨some 4, 64, none, .al [(.int .i64 0), (.int .i64 0), (.int .i64 0), (.int .i64 0), (.int .i64 0), (.int .i64 0), (.int .i64 0)]⟩,⟨none, 0, none, .st 7 (.t 4) (.t 14)⟩])
 (.seq (.reg [⟨some 15, 240, none, .ld 7 true (.t 4)⟩,⟨some 16, 256, none, .call (.c (.fn (.func 70) [] [])) [(.t 15)]⟩,⟨some 5, 80, none, .mv (.t 16)⟩])
 (.seq (.reg [⟨some 17, 272, none, .mv (.t 5)⟩,⟨some 18, 288, none, .bi false .neq (.t 17) (.c (.int .i64 0))⟩])
 (.cond (.t 18) (.seq (.reg [⟨some 19, 304, none, .mv (.t 5)⟩,⟨some 2, 32, none, .mv (.t 19)⟩])
 .ret) .skip)))))
 (.reg [⟨some 20, 320, none, .bi false .add (.t 11) (.c (.int .i64 1))⟩,⟨some 11, 176, none, .mv (.t 20)⟩]))))
def c62 : C := (.seq (.reg [⟨some 2, 32, none, .mv (.c (.int .i64 0))⟩])
 (.seq (.seq (.reg [⟨some 6, 96, none, .mv (.t 0)⟩,⟨some 7, 112, none, .len (.t 6)⟩,⟨some 8, 128, none, .bi false .gtr (.t 7) (.c (.int .i64 200))⟩])
 (.cond (.t 8) (.seq (.reg [⟨some 2, 32, none, .mv (.c (.int .i64 10))⟩])
 .ret) .skip))
 (.seq (.seq (.reg [⟨some 9, 144, none, .mv (.t 0)⟩,⟨some 10, 160, none, .len (.t 9)⟩,⟨some 11, 176, none, .mv (.c (.int .i64 0))⟩])
 (.block 0 (.loop c62L1)))
 (.seq (.reg [⟨some 2, 32, none, .mv (.c (.int .i64 0))⟩])
 .ret))))
theorem fits62 : fits Tryz.prog false Tryz.f62 1 21 [(2, none)] = some c62.er := by kernel_rfl
def wi (n m : Int) : Bool := decide (0 ≤ n) && decide (n ≤ m)
theorem call56 (n m : Int) : PureCall Tryz.prog 56 [.int .i64 n, .int .i64 m] [] ⟨.bool (wi n m), [], []⟩ := by
 refine pure_call mix Tryz.func56 fits56 rfl ?_
 conv => whnf
 refine ⟨?_, [], ?_⟩
 ·exact g0
 conv => whnf
 refine ⟨rfl, ?_, trivial, trivial⟩
 show PLe _ _ _ _
 conv => whnf
 unfold wi
 cases decide (0 ≤ n) <;> rfl
theorem call139 (n : Int) : PureCall Tryz.prog 139 [.int .i64 n] [] ⟨.bool (wi n 364), [], []⟩ := by
 refine pure_call mix Tryz.func139 fits139 rfl ?_
 conv => whnf
 refine ⟨_, fun _ => call56 n 364, ?_⟩
 conv => whnf
 exact ret
theorem call137 (f u : Int) : PureCall Tryz.prog 137 [.agg [.int .i64 f, .int .i64 u]] [] ⟨.bool (wi f 364 && wi u 364), [], []⟩ := by
 refine pure_call mix Tryz.func137 fits137 rfl ?_
 conv => whnf
 refine ⟨_, fun _ => call139 f, ?_⟩
 conv => whnf
 refine ⟨_, fun _ => call139 u, ?_⟩
 conv => whnf
 refine ⟨?_, [], ?_⟩
 ·exact g0
 conv => whnf
 refine ⟨rfl, ?_, trivial, trivial⟩
 show PLe _ _ _ _
 conv => whnf
 cases wi f 364 <;> rfl
theorem call136 (n : Int) : PureCall Tryz.prog 136 [.int .i64 n] [] ⟨.bool (wi n 16777216), [], []⟩ := by
 refine pure_call mix Tryz.func136 fits136 rfl ?_
 conv => whnf
 refine ⟨_, fun _ => call56 n 16777216, ?_⟩
 conv => whnf
 exact ret
theorem wi_iff (n m : Int) : wi n m = true ↔ 0 ≤ n ∧ n ≤ m := by simp [wi]
theorem bad_test (c : Cd) : (bif bif bif bif !wi c.v 1073741824 then true else !(wi c.f 364 && wi c.u 364) then true else !wi c.a 16777216 then true else !wi c.b 16777216 then true else decide (c.b < c.a)) = decide (badC c) := by
 have h1 := wi_iff c.v 1073741824
 have h2 := wi_iff c.f 364
 have h3 := wi_iff c.u 364
 have h4 := wi_iff c.a 16777216
 have h5 := wi_iff c.b 16777216
 rw [Bool.eq_iff_iff, decide_eq_true_iff]
 unfold badC
 rw [← h1, ← h2, ← h3, ← h4, ← h5]
 cases wi c.v 1073741824 <;> cases wi c.f 364 <;> cases wi c.u 364 <;> cases wi c.a 16777216 <;> cases wi c.b 16777216 <;> simp
set_option maxRecDepth 100000 in
theorem call70 (c : Cd) : PureCall Tryz.prog 70 [.agg (eCd c)] [] ⟨.int .i64 (oneC c), [], []⟩ := by
 refine pure_call mix Tryz.func70 fits70 rfl ?_
 unfold oneC
 conv => whnf
 refine ⟨?_, fun hc => ?_, fun hc => ?_⟩
 ·exact g0
 ·simp only [bp] at hc
  rw [if_pos (by omega)]
  conv => whnf
  exact ret
 simp only [bp] at hc
 rw [if_neg (by omega)]
 conv => whnf
 refine ⟨?_, fun hc => ?_, fun hc => ?_⟩
 ·exact g0
 ·simp only [bp] at hc
  rw [if_pos (by omega)]
  conv => whnf
  exact ret
 simp only [bp] at hc
 rw [if_neg (by omega)]
 conv => whnf
 refine ⟨_, fun _ => call56 c.v 1073741824, ?_⟩
 conv => whnf
 refine ⟨_, fun _ => call137 c.f c.u, ?_⟩
 conv => whnf
 refine ⟨_, fun _ => call136 c.a, ?_⟩
 conv => whnf
 refine ⟨_, fun _ => call136 c.b, ?_⟩
 conv => whnf
 refine ⟨?_, fun hc => ?_, fun hc => ?_⟩
 ·exact g0
 ·have hb : badC c := of_decide_eq_true ((bad_test c).symm.trans hc)
  rw [if_pos hb]
  conv => whnf
  exact ret
 ·have hb : ¬ badC c := of_decide_eq_false ((bad_test c).symm.trans hc)
  rw [if_neg hb]
  conv => whnf
  exact ret
def allC : List Cd → Int
 | [] => 0
 | c :: l => if oneC c ≠ 0 then oneC c else allC l
def limC (l : List Cd) : Int := if 200 < l.length then 10 else allC l
theorem allC_drop {l : List Cd} {i : Nat} (h : i < l.length) : allC (l.drop i) = if oneC (l.getD i default) ≠ 0 then oneC (l.getD i default) else allC (l.drop (i + 1)) := by
 rw [List.drop_eq_getElem_cons h]
 have : l.getD i default = l[i] := by simp [List.getD, h]
 rw [this]; rfl
set_option maxRecDepth 100000 in
theorem call62 (τ : Nat) (l : List Cd) : PureCall Tryz.prog 62 [.sl τ 7 l.length (fl eCd l)] [] ⟨.int .i64 (limC l), [], []⟩ := by
 refine pure_call mix Tryz.func62 fits62 rfl ?_
 unfold limC
 conv => whnf
 refine ⟨?_, fun hc => ?_, fun hc => ?_⟩
 ·exact g0
 ·simp only [bp] at hc
  rw [if_pos (by omega)]
  conv => whnf
  exact ret
 simp only [bp] at hc
 rw [if_neg (by omega)]
 conv => whnf
 refine ⟨trivial, ?_⟩
 refine LSem.loop (n := 21) mix (α := Nat) (fun i => i ≤ l.length ∧ allC (l.drop i) = allC l)
  (fun i => [(9, .sl τ 7 l.length (fl eCd l)), (10, .int .i64 l.length), (11, .int .i64 i)])
  (fun i => []) (fun i => l.length - i) 0 ?_ ?_ ?_
 ·exact ⟨Nat.zero_le _, rfl⟩
 ·refine ⟨rfl, rfl, ?_, ?_⟩ <;> exact ent
 ·rintro i ⟨hi, hp⟩
  have hj : ((i : Int)).toNat = i := by omega
  conv => whnf
  refine ⟨trivial, fun hc => ?_, fun hc => ?_⟩
  ·replace hc := of_decide_eq_true hc
   have hlt : i < l.length := by
    have h : (i : Int) < l.length := hc
    omega
   rw [allC_drop hlt] at hp
   conv => whnf
   rw [hj]
   refine ⟨_, fun _ => call70 (l.getD i default), ?_⟩
   generalize oneC (l.getD i default) = e at hp ⊢
   conv => whnf
   refine ⟨?_, fun h => ?_, fun h => ?_⟩
   ·exact g0
   ·simp only [bp] at h
    rw [if_pos h] at hp
    rw [← hp]
    conv => whnf
    exact ret
   ·simp only [bp] at h
    rw [if_neg (by omega)] at hp
    conv => whnf
    refine ⟨?_, i + 1, ⟨hlt, hp⟩, by omega, rfl, rfl, ?_, ?_⟩
    ·exact g0
    ·exact ent
    ·exact ent
  ·replace hc := of_decide_eq_false hc
   have hk : i = l.length := by
    have h : ¬ (i : Int) < l.length := hc
    omega
   subst hk
   rw [List.drop_length] at hp
   rw [← show (0 : Int) = allC l from hp]
   conv => whnf
   exact ret
end Pv
end Go.Proofs.YtdcgnfkkklbckaaGreatDoor
/- TOP, THE WALKS: the conditions that apply, by rank. -/
set_option linter.unusedSimpArgs false
set_option linter.unusedVariables false
namespace Go.Proofs.YtdcgnfkkklbckaaGreatDoor
namespace Pv
def c197 : C := (.seq (.reg [⟨some 2, 32, none, .bx 2 (.t 0)⟩,⟨some 4, 64, none, .mv (.c (.bool false))⟩])
 (.seq (.seq (.reg [⟨some 5, 80, none, .ld 2 true (.t 2)⟩,⟨some 6, 96, none, .call (.c (.fn (.func 137) [] [])) [(.t 5)]⟩,⟨some 7, 112, none, .un false .not (.t 6)⟩,⟨some 8, 128, none, .mv (.t 7)⟩,⟨some 9, 144, (some (8, false)), .mv (.t 1)⟩,⟨some 10, 160, (some (8, false)), .call (.c (.fn (.func 139) [] [])) [(.t 9)]⟩,⟨some 11, 176, (some (8, false)), .un false .not (.t 10)⟩,⟨some 12, 192, none, .pick (.t 8) (.c (.bool true)) (.t 11)⟩])
 (.cond (.t 12) (.seq (.reg [⟨some 4, 64, none, .mv (.c (.bool false))⟩])
 .ret) .skip))
 (.seq (.seq (.reg [⟨some 13, 208, none, .fa 0 (.t 2)⟩,⟨some 14, 224, none, .ld 1 false (.t 13)⟩,⟨some 15, 240, none, .fa 1 (.t 2)⟩,⟨some 16, 256, none, .ld 1 false (.t 15)⟩,⟨some 17, 272, none, .bi false .leq (.t 14) (.t 16)⟩])
 (.cond (.t 17) (.seq (.reg [⟨some 18, 288, none, .fa 0 (.t 2)⟩,⟨some 19, 304, none, .ld 1 false (.t 18)⟩,⟨some 20, 320, none, .mv (.t 1)⟩,⟨some 21, 336, none, .bi false .leq (.t 19) (.t 20)⟩,⟨some 22, 352, none, .mv (.t 21)⟩,⟨some 23, 368, (some (22, true)), .mv (.t 1)⟩,⟨some 24, 384, (some (22, true)), .fa 1 (.t 2)⟩,⟨some 25, 400, (some (22, true)), .ld 1 false (.t 24)⟩,⟨some 26, 416, (some (22, true)), .bi false .leq (.t 23) (.t 25)⟩,⟨some 27, 432, none, .pick (.t 22) (.t 26) (.c (.bool false))⟩,⟨some 4, 64, none, .mv (.t 27)⟩])
 .ret) .skip))
 (.seq (.reg [⟨some 28, 448, none, .mv (.t 1)⟩,⟨some 29, 464, none, .fa 0 (.t 2)⟩,⟨some 30, 480, none, .ld 1 false (.t 29)⟩,⟨some 31, 496, none, .bi false .geq (.t 28) (.t 30)⟩,⟨some 32, 512, none, .mv (.t 31)⟩,⟨some 33, 528, (some (32, false)), .mv (.t 1)⟩,⟨some 34, 544, (some (32, false)), .fa 1 (.t 2)⟩,⟨some 35, 560, (some (32, false)), .ld 1 false (.t 34)⟩,⟨some 36, 576, (some (32, false)), .bi false .leq (.t 33) (.t 35)⟩,⟨some 37, 592, none, .pick (.t 32) (.c (.bool true)) (.t 36)⟩,⟨some 4, 64, none, .mv (.t 37)⟩])
 .ret))))
theorem fits197 : fits Tryz.prog false Tryz.f197 2 38 [(4, none)] = some c197.er := by kernel_rfl
def c144 : C := (.seq (.reg [⟨some 3, 48, none, .bx 7 (.t 0)⟩,⟨some 6, 96, none, .mv (.c (.bool false))⟩])
 (.seq (.reg [⟨some 7, 112, none, .ld 7 true (.t 3)⟩,⟨some 8, 128, none, .call (.c (.fn (.func 70) [] [])) [(.t 7)]⟩,⟨some 9, 144, none, .bi false .eql (.t 8) (.c (.int .i64 0))⟩,⟨some 10, 160, none, .mv (.t 9)⟩,⟨some 11, 176, (some (10, true)), .fa 3 (.t 3)⟩,⟨some 12, 192, (some (10, true)), .ld 2 true (.t 11)⟩,⟨some 13, 208, (some (10, true)), .mv (.t 1)⟩,⟨some 14, 224, (some (10, true)), .call (.c (.fn (.func 197) [] [])) [(.t 12), (.t 13)]⟩,⟨some 15, 240, none, .pick (.t 10) (.t 14) (.c (.bool false))⟩,⟨some 16, 256, none, .mv (.t 15)⟩,⟨some 17, 272, (some (16, true)), .mv (.t 2)⟩,⟨some 18, 288, (some (16, true)), .fa 5 (.t 3)⟩,⟨some 19, 304, (some (16, true)), .ld 1 false (.t 18)⟩,⟨some 20, 320, (some (16, true)), .bi false .geq (.t 17) (.t 19)⟩,⟨some 21, 336, none, .pick (.t 16) (.t 20) (.c (.bool false))⟩,⟨some 22, 352, none, .mv (.t 21)⟩,⟨some 23, 368, (some (22, true)), .mv (.t 2)⟩,⟨some 24, 384, (some (22, true)), .fa 6 (.t 3)⟩,⟨some 25, 400, (some (22, true)), .ld 1 false (.t 24)⟩,⟨some 26, 416, (some (22, true)), .bi false .leq (.t 23) (.t 25)⟩,⟨some 27, 432, none, .pick (.t 22) (.t 26) (.c (.bool false))⟩,⟨some 6, 96, none, .mv (.t 27)⟩])
 .ret))
theorem fits144 : fits Tryz.prog false Tryz.f144 3 28 [(6, none)] = some c144.er := by kernel_rfl
def c143 : C := (.seq (.reg [⟨some 5, 80, none, .mv (.c (.bool false))⟩])
 (.seq (.drw [⟨some 6, 96, none, .ld 1 false (.t 1)⟩,⟨some 7, 112, none, .mv (.t 0)⟩,⟨some 8, 128, none, .ia 7 (.t 6) (.t 7)⟩,⟨some 9, 144, none, .ld 7 true (.t 8)⟩,⟨some 10, 160, none, .ld 1 false (.t 2)⟩,⟨some 11, 176, none, .ld 1 false (.t 3)⟩,⟨some 12, 192, none, .call (.c (.fn (.func 144) [] [])) [(.t 9), (.t 10), (.t 11)]⟩,⟨some 13, 208, none, .un false .not (.t 12)⟩,⟨some 5, 80, none, .mv (.t 13)⟩]
  [(0, 1, 6), (0, 4, 6), (0, 5, 6), (1, 4, 7), (1, 5, 7), (2, 4, 8), (2, 5, 8), (3, 4, 9), (3, 5, 9), (4, 5, 10)])
 .ret))
theorem fits143 : fits Tryz.prog false Tryz.f143 4 14 [(5, none)] = some c143.er := by kernel_rfl
def c142L1 : C := (.seq (.reg [⟨some 8, 128, none, .bi false .lss (.t 7) (.t 6)⟩])
 (.seq (.cond (.t 8) .skip (.exit 0))
 (.seq (.block 1 (.seq (.reg [⟨some 9, 144, none, .mv (.t 7)⟩,⟨some 4, 64, none, .mv (.t 9)⟩])
 (.reg [⟨some 10, 160, none, .mv (.t 3)⟩,⟨some 11, 176, none, .mv (.t 4)⟩,⟨some 12, 192, none, .bs 3 1 [(.t 11)]⟩,⟨some 13, 208, none, .app 3 1 8 (.t 10) (.t 12)⟩,⟨some 3, 48, none, .mv (.t 13)⟩])))
 (.reg [⟨some 14, 224, none, .bi false .add (.t 7) (.c (.int .i64 1))⟩,⟨some 7, 112, none, .mv (.t 14)⟩]))))
def c142 : C := (.seq (.reg [⟨some 1, 16, none, .bx 1 (.t 0)⟩,⟨some 2, 32, none, .mv (.c (.nil 1))⟩])
 (.seq (.reg [⟨some 3, 48, none, .mv (.c (.nil 1))⟩])
 (.seq (.seq (.reg [⟨some 5, 80, none, .ld 1 false (.t 1)⟩,⟨some 6, 96, none, .len (.t 5)⟩,⟨some 7, 112, none, .mv (.c (.int .i64 0))⟩])
 (.block 0 (.loop c142L1)))
 (.seq (.reg [⟨some 15, 240, none, .mv (.t 3)⟩,⟨some 16, 256, none, .mf (.func 196) [] [(.t 1)]⟩,⟨some 17, 272, none, .call (.c (.fn (.func 195) [] [])) [(.t 15), (.t 16)]⟩])
 (.seq (.reg [⟨some 18, 288, none, .mv (.t 3)⟩,⟨some 2, 32, none, .mv (.t 18)⟩])
 .ret)))))
theorem fits142 : fits Tryz.prog false Tryz.f142 1 19 [(2, none)] = some c142.er := by kernel_rfl
def c122L1 : C := (.seq (.reg [⟨some 9, 144, none, .bi false .lss (.t 8) (.t 7)⟩])
 (.seq (.cond (.t 9) .skip (.exit 0))
 (.seq (.block 1 (.seq (.reg [⟨some 10, 160, none, .mv (.t 8)⟩,⟨some 5, 80, none, .mv (.t 10)⟩])
 (.seq (.reg [⟨some 11, 176, none, .mv (.t 1)⟩,⟨some 12, 192, none, .mv (.t 0)⟩,⟨some 13, 208, none, .mv (.t 5)⟩,⟨some 14, 224, none, .ia 1 (.t 12) (.t 13)⟩,⟨some 15, 240, none, .ld 1 false (.t 14)⟩,⟨some 16, 256, none, .call (.t 11) [(.t 15)]⟩])
 (.cond (.t 16) (.seq (.reg [⟨some 17, 272, none, .mv (.t 5)⟩,⟨some 4, 64, none, .mv (.t 17)⟩])
 .ret) .skip))))
 (.reg [⟨some 18, 288, none, .bi false .add (.t 8) (.c (.int .i64 1))⟩,⟨some 8, 128, none, .mv (.t 18)⟩]))))
def c122 : C := (.seq (.reg [⟨some 4, 64, none, .mv (.c (.int .i64 0))⟩])
 (.seq (.seq (.reg [⟨some 6, 96, none, .mv (.t 0)⟩,⟨some 7, 112, none, .len (.t 6)⟩,⟨some 8, 128, none, .mv (.c (.int .i64 0))⟩])
 (.block 0 (.loop c122L1)))
 (.seq (.reg [⟨some 4, 64, none, .mv (.c (.int .i64 (-1)))⟩])
 .ret)))
theorem fits122 : fits Tryz.prog false Tryz.f122 2 19 [(4, none)] = some c122.er := by kernel_rfl
def inSp (f u d : Int) : Bool := (wi f 364 && wi u 364) && wi d 364 && (if f ≤ u then decide (f ≤ d) && decide (d ≤ u) else decide (f ≤ d) || decide (d ≤ u))
theorem call197 (f u d : Int) : PureCall Tryz.prog 197 [.agg [.int .i64 f, .int .i64 u], .int .i64 d] [] ⟨.bool (inSp f u d), [], []⟩ := by
 refine pure_call mix Tryz.func197 fits197 rfl ?_
 conv => whnf
 refine ⟨_, fun _ => call137 f u, ?_⟩
 conv => whnf
 refine ⟨_, fun _ => call139 d, ?_⟩
 conv => whnf
 refine ⟨?_, fun hc => ?_, fun hc => ?_⟩
 ·exact g0
 ·have h : inSp f u d = false := by
   unfold inSp
   revert hc
   cases wi f 364 <;> cases wi u 364 <;> cases wi d 364 <;> simp
  rw [h]
  conv => whnf
  refine ⟨?_, [], ?_⟩
  ·exact g0
  conv => whnf
  refine ⟨rfl, ?_, trivial, trivial⟩
  all_goals repeat' (first | exact True.intro | refine leF_cons rfl ?_ ?_ | refine leS_cons rfl ?_ ?_ | (show PLe _ _ _ _; conv => whnf) | (show SLe _ _ _ _; conv => whnf) | (show PLeL _ _ _ _; conv => whnf) | apply And.intro | rfl | exact Nat.le_refl _ | exact fun _ _ => rfl | exact rowEq0 _ _)
 have hv : ((wi f 364 && wi u 364) && wi d 364) = true := by
  revert hc
  cases wi f 364 <;> cases wi u 364 <;> cases wi d 364 <;> simp
 conv => whnf
 refine ⟨?_, fun hc => ?_, fun hc => ?_⟩
 ·exact g0
 ·have h : inSp f u d = (bif decide (f ≤ d) then decide (d ≤ u) else false) := by
   unfold inSp
   rw [hv, if_pos (of_decide_eq_true hc)]
   cases decide (f ≤ d) <;> rfl
  rw [h]
  conv => whnf
  refine ⟨?_, [], ?_⟩
  ·exact g0
  conv => whnf
  refine ⟨rfl, ?_, trivial, trivial⟩
  all_goals repeat' (first | exact True.intro | refine leF_cons rfl ?_ ?_ | refine leS_cons rfl ?_ ?_ | (show PLe _ _ _ _; conv => whnf) | (show SLe _ _ _ _; conv => whnf) | (show PLeL _ _ _ _; conv => whnf) | apply And.intro | rfl | exact Nat.le_refl _ | exact fun _ _ => rfl | exact rowEq0 _ _)
 ·have h : inSp f u d = (bif decide (f ≤ d) then true else decide (d ≤ u)) := by
   unfold inSp
   rw [hv, if_neg (of_decide_eq_false hc)]
   cases decide (f ≤ d) <;> rfl
  rw [h]
  conv => whnf
  refine ⟨?_, [], ?_⟩
  ·exact g0
  conv => whnf
  refine ⟨rfl, ?_, trivial, trivial⟩
  all_goals repeat' (first | exact True.intro | refine leF_cons rfl ?_ ?_ | refine leS_cons rfl ?_ ?_ | (show PLe _ _ _ _; conv => whnf) | (show SLe _ _ _ _; conv => whnf) | (show PLeL _ _ _ _; conv => whnf) | apply And.intro | rfl | exact Nat.le_refl _ | exact fun _ _ => rfl | exact rowEq0 _ _)
def applB (c : Cd) (day level : Int) : Bool := bif bif bif decide (oneC c = 0) then inSp c.f c.u day else false then decide (c.a ≤ level) else false then decide (level ≤ c.b) else false
set_option maxRecDepth 100000 in
theorem call144 (c : Cd) (day level : Int) : PureCall Tryz.prog 144 [.agg (eCd c), .int .i64 day, .int .i64 level] [] ⟨.bool (applB c day level), [], []⟩ := by
 refine pure_call mix Tryz.func144 fits144 rfl ?_
 conv => whnf
 refine ⟨_, fun _ => call70 c, ?_⟩
 conv => whnf
 refine ⟨_, fun _ => call197 c.f c.u day, ?_⟩
 conv => whnf
 refine ⟨?_, [], ?_⟩
 ·exact g0
 conv => whnf
 refine ⟨rfl, ?_, trivial, trivial⟩
 all_goals repeat' (first | exact True.intro | refine leF_cons rfl ?_ ?_ | refine leS_cons rfl ?_ ?_ | (show PLe _ _ _ _; conv => whnf) | (show SLe _ _ _ _; conv => whnf) | (show PLeL _ _ _ _; conv => whnf) | apply And.intro | rfl | exact Nat.le_refl _ | exact fun _ _ => rfl | exact rowEq0 _ _)
def goneB (l : List Cd) (day level i : Int) : Bool := !applB (l.getD i.toNat default) day level
theorem call143 (σ σ' τ : Nat) (l : List Cd) (hl : l.length ≤ 4611686018427387904) (day level i : Int) (hi : 0 ≤ i ∧ i < l.length) :
  PureCall Tryz.prog 143 [.int .i64 i, .rp σ [.sl τ 7 l.length (fl eCd l)], .rp σ' [.int .i64 day], .rp σ' [.int .i64 level]] [] ⟨.bool (goneB l day level i), [], []⟩ := by
 unfold goneB
 refine pure_call mix Tryz.func143 fits143 rfl ?_
 conv => whnf
 refine ⟨_, fun _ => call144 (l.getD i.toNat default) day level, ?_⟩
 conv => whnf
 refine ⟨rfl, ?_⟩
 conv => whnf
 refine ⟨?_, [], ?_⟩
 ·exact g0
 conv => whnf
 refine ⟨rfl, ?_, trivial, trivial⟩
 all_goals repeat' (first | exact True.intro | refine leF_cons rfl ?_ ?_ | refine leS_cons rfl ?_ ?_ | (show PLe _ _ _ _; conv => whnf) | (show SLe _ _ _ _; conv => whnf) | (show PLeL _ _ _ _; conv => whnf) | apply And.intro | rfl | exact Nat.le_refl _ | exact fun _ _ => rfl | exact rowEq0 _ _)
def ordF (l : List Cd) : Nat → Int := insN (rkC l) (fun k => (k : Int)) l.length
theorem call142 (l : List Cd) (hl : l.length < 20) : PureCall Tryz.prog 142 [.sl 2 7 l.length (fl eCd l)] [] ⟨.os 1000000000, [], [.row 0 3 1 l.length (eR (ordF l))]⟩ := by
 refine pure_call mix Tryz.func142 fits142 rfl ?_
 conv => whnf
 refine ⟨trivial, ?_⟩
 refine LSem.adopt 3 1000000 3 1 1 rfl rfl ?_
 refine LSem.loop (n := 19) mix (α := Nat) (fun i => i ≤ l.length)
  (fun i => [(1, .pt 16 0 0), (3, .os 1000000), (6, .int .i64 l.length), (7, .int .i64 i)])
  (fun i => [(16, .box [.sl 2 7 l.length (fl eCd l)]), (1000000, .row 0 3 1 i (eR (fun k => (k : Int))))]) (fun i => l.length - i) 0 ?_ ?_ ?_
 ·exact Nat.zero_le _
 ·refine ⟨rfl, rfl, ?_, ?_⟩
  all_goals repeat' (first | exact True.intro | refine leF_cons rfl ?_ ?_ | refine leS_cons rfl ?_ ?_ | (show PLe _ _ _ _; conv => whnf) | (show SLe _ _ _ _; conv => whnf) | (show PLeL _ _ _ _; conv => whnf) | apply And.intro | rfl | exact Nat.le_refl _ | exact fun _ _ => rfl | exact rowEq0 _ _)
 ·intro i hi
  conv => whnf
  refine ⟨trivial, fun hc => ?_, fun hc => ?_⟩
  ·replace hc := of_decide_eq_true hc
   conv => whnf
   refine ⟨?_, i + 1, by omega, by omega, rfl, rfl, ?_, ?_⟩
   ·exact g0
   all_goals repeat' (first | exact True.intro | refine leF_cons rfl ?_ ?_ | refine leS_cons rfl ?_ ?_ | (show PLe _ _ _ _; conv => whnf) | (show SLe _ _ _ _; conv => whnf) | (show PLeL _ _ _ _; conv => whnf) | apply And.intro | rfl | exact Nat.le_refl _ | exact fun _ _ => rfl | exact rowEq0 _ _)
   all_goals
    intro k hk
    unfold appF
    by_cases hki : k < i
    ·rw [if_pos hki]
    ·rw [if_neg hki]
     have : k = i := by simp at hk; omega
     subst this
     simp [eR]
  ·replace hc := of_decide_eq_false hc
   have : i = l.length := by omega
   subst this
   conv => whnf
   refine ⟨_, fun _ => call195 _ _ l (by omega) l.length hl (fun k => (k : Int)) (fun k hk => by omega), ?_⟩
   conv => whnf
   refine ⟨?_, [1000000], ?_⟩
   ·exact g0
   conv => whnf
   refine ⟨rfl, ?_, trivial, ?_⟩
   all_goals repeat' (first | exact True.intro | refine leF_cons rfl ?_ ?_ | refine leS_cons rfl ?_ ?_ | (show PLe _ _ _ _; conv => whnf) | (show SLe _ _ _ _; conv => whnf) | (show PLeL _ _ _ _; conv => whnf) | apply And.intro | rfl | exact Nat.le_refl _ | exact fun _ _ => rfl | exact rowEq0 _ _)
def ixF (p : Int → Bool) (g : Nat → Int) : Nat → Nat → Int
 | _, 0 => -1
 | i, n + 1 => if p (g i) = true then i else ixF p g (i + 1) n
theorem ixF_neg {p : Int → Bool} {g : Nat → Int} : ∀ {n i : Nat}, ixF p g i n < 0 → ∀ j, i ≤ j → j < i + n → p (g j) = false
 | 0, i, _, j, h1, h2 => by omega
 | n + 1, i, h, j, h3, h4 => by
   unfold ixF at h
   by_cases hp : p (g i) = true
   ·rw [if_pos hp] at h; omega
   ·rw [if_neg hp] at h
    by_cases e : j = i
    ·rw [e]; simpa using hp
    ·exact ixF_neg h j (by omega) (by omega)
theorem ixF_pos {p : Int → Bool} {g : Nat → Int} : ∀ {n i : Nat}, 0 ≤ ixF p g i n → ∃ k : Nat, ixF p g i n = k ∧ i ≤ k ∧ k < i + n ∧ p (g k) = true ∧ ∀ j, i ≤ j → j < k → p (g j) = false
 | 0, i, h => by simp [ixF] at h
 | n + 1, i, h => by
   unfold ixF at h ⊢
   by_cases hp : p (g i) = true
   ·rw [if_pos hp]; exact ⟨i, rfl, by omega, by omega, hp, fun j h1 h2 => by omega⟩
   ·rw [if_neg hp] at h ⊢
    obtain ⟨k, h1, h2, h3, h4, h5⟩ := ixF_pos h
    refine ⟨k, h1, by omega, by omega, h4, fun j h6 h7 => ?_⟩
    by_cases e : j = i
    ·rw [e]; simpa using hp
    ·exact h5 j (by omega) h7
theorem call122 (ρ σ τ : Nat) (l : List Cd) (hl : l.length ≤ 4611686018427387904) (day level : Int) (n : Nat) (hn : n ≤ 4611686018427387904) (g : Nat → Int) (hg : ∀ k, k < n → 0 ≤ g k ∧ g k < l.length) :
  PureCall Tryz.prog 122 [.sl ρ 1 n (eR g), .fn (.func 143) [] [.rp σ [.sl τ 7 l.length (fl eCd l)], .rp σ [.int .i64 day], .rp σ [.int .i64 level]]] [] ⟨.int .i64 (ixF (goneB l day level) g 0 n), [], []⟩ := by
 refine pure_call mix Tryz.func122 fits122 rfl ?_
 conv => whnf
 refine ⟨trivial, ?_⟩
 refine LSem.loop (n := 19) mix (α := Nat) (fun i => i ≤ n ∧ ixF (goneB l day level) g i (n - i) = ixF (goneB l day level) g 0 n)
  (fun i => [(0, .sl ρ 1 n (eR g)), (1, .fn (.func 143) [] [.rp σ [.sl τ 7 l.length (fl eCd l)], .rp σ [.int .i64 day], .rp σ [.int .i64 level]]), (7, .int .i64 n), (8, .int .i64 i)])
  (fun i => []) (fun i => n - i) 0 ?_ ?_ ?_
 ·exact ⟨Nat.zero_le _, rfl⟩
 ·refine ⟨rfl, rfl, ?_, ?_⟩
  all_goals repeat' (first | exact True.intro | refine leF_cons rfl ?_ ?_ | refine leS_cons rfl ?_ ?_ | (show PLe _ _ _ _; conv => whnf) | (show SLe _ _ _ _; conv => whnf) | (show PLeL _ _ _ _; conv => whnf) | apply And.intro | rfl | exact Nat.le_refl _ | exact fun _ _ => rfl | exact rowEq0 _ _)
 ·intro i hi
  obtain ⟨hi, hs⟩ := hi
  have hj : ((i : Int)).toNat = i := by omega
  conv => whnf
  refine ⟨trivial, fun hc => ?_, fun hc => ?_⟩
  ·replace hc := of_decide_eq_true hc
   have hlt : i < n := by omega
   have hst : ixF (goneB l day level) g i (n - i) = if goneB l day level (g i) = true then (i : Int) else ixF (goneB l day level) g (i + 1) (n - (i + 1)) := by
    rw [show n - i = (n - (i + 1)) + 1 by omega]; rfl
   rw [hst] at hs
   conv => whnf
   refine ⟨_, fun _ => call143 _ _ τ l hl day level (g ((i : Int)).toNat) (by rw [hj]; exact hg i hlt), ?_⟩
   rw [hj]
   conv => whnf
   refine ⟨?_, fun hc2 => ?_, fun hc2 => ?_⟩
   ·exact g0
   ·rw [if_pos hc2] at hs
    rw [← hs]
    conv => whnf
    refine ⟨?_, [], ?_⟩
    ·exact g0
    conv => whnf
    refine ⟨rfl, ?_, trivial, trivial⟩
    all_goals repeat' (first | exact True.intro | refine leF_cons rfl ?_ ?_ | refine leS_cons rfl ?_ ?_ | (show PLe _ _ _ _; conv => whnf) | (show SLe _ _ _ _; conv => whnf) | (show PLeL _ _ _ _; conv => whnf) | apply And.intro | rfl | exact Nat.le_refl _ | exact fun _ _ => rfl | exact rowEq0 _ _)
   ·rw [if_neg (by rw [hc2]; decide)] at hs
    conv => whnf
    refine ⟨?_, i + 1, ⟨by omega, hs⟩, ?_, rfl, rfl, ?_, ?_⟩
    ·exact g0
    ·omega
    all_goals repeat' (first | exact True.intro | refine leF_cons rfl ?_ ?_ | refine leS_cons rfl ?_ ?_ | (show PLe _ _ _ _; conv => whnf) | (show SLe _ _ _ _; conv => whnf) | (show PLeL _ _ _ _; conv => whnf) | apply And.intro | rfl | exact Nat.le_refl _ | exact fun _ _ => rfl | exact rowEq0 _ _)
    all_goals omega
  ·replace hc := of_decide_eq_false hc
   rw [show n - i = 0 by omega] at hs
   rw [← hs]
   conv => whnf
   refine ⟨?_, [], ?_⟩
   ·exact g0
   conv => whnf
   refine ⟨rfl, ?_, trivial, trivial⟩
   all_goals repeat' (first | exact True.intro | refine leF_cons rfl ?_ ?_ | refine leS_cons rfl ?_ ?_ | (show PLe _ _ _ _; conv => whnf) | (show SLe _ _ _ _; conv => whnf) | (show PLeL _ _ _ _; conv => whnf) | apply And.intro | rfl | exact Nat.le_refl _ | exact fun _ _ => rfl | exact rowEq0 _ _)
end Pv
end Go.Proofs.YtdcgnfkkklbckaaGreatDoor
/- TOP, THE WALKS: what applies (numbers are taken out of a list). -/
set_option linter.unusedSimpArgs false
set_option linter.unusedVariables false
namespace Go.Proofs.YtdcgnfkkklbckaaGreatDoor
namespace Pv
def c141L1 : C := (.seq (.seq (.reg [⟨some 16, 256, none, .mv (.t 6)⟩,⟨some 17, 272, none, .mv (.t 0)⟩,⟨some 18, 288, none, .len (.t 17)⟩,⟨some 19, 304, none, .bi false .lss (.t 16) (.t 18)⟩])
 (.cond (.t 19) .skip (.exit 0)))
 (.seq (.block 1 (.seq (.reg [⟨some 22, 352, none, .mv (.t 0)⟩,⟨some 23, 368, none, .mv (.t 6)⟩,⟨some 24, 384, none, .ia 1 (.t 22) (.t 23)⟩,⟨some 25, 400, none, .ld 1 false (.t 24)⟩,⟨some 7, 112, none, .mv (.t 25)⟩])
 (.seq (.reg [⟨some 26, 416, none, .mv (.t 1)⟩,⟨some 27, 432, none, .mv (.t 7)⟩,⟨some 28, 448, none, .call (.t 26) [(.t 27)]⟩,⟨some 29, 464, none, .un false .not (.t 28)⟩])
 (.cond (.t 29) (.seq (.reg [⟨some 30, 480, none, .mv (.t 0)⟩,⟨some 31, 496, none, .mv (.t 5)⟩,⟨some 32, 512, none, .mv (.t 7)⟩,⟨some 33, 528, none, .ia 1 (.t 30) (.t 31)⟩,⟨none, 0, none, .st 1 (.t 33) (.t 32)⟩])
 (.reg [⟨some 34, 544, none, .mv (.t 5)⟩,⟨some 35, 560, none, .bi false .add (.t 34) (.c (.int .i64 1))⟩,⟨some 5, 80, none, .mv (.t 35)⟩])) .skip))))
 (.reg [⟨some 20, 320, none, .mv (.t 6)⟩,⟨some 21, 336, none, .bi false .add (.t 20) (.c (.int .i64 1))⟩,⟨some 6, 96, none, .mv (.t 21)⟩])))
def c141 : C := (.seq (.reg [⟨some 4, 64, none, .mv (.c (.nil 1))⟩])
 (.seq (.reg [⟨some 8, 128, none, .mv (.t 0)⟩,⟨some 9, 144, none, .mv (.t 1)⟩,⟨some 10, 160, none, .call (.c (.fn (.func 122) [] [])) [(.t 8), (.t 9)]⟩,⟨some 5, 80, none, .mv (.t 10)⟩])
 (.seq (.seq (.reg [⟨some 11, 176, none, .mv (.t 5)⟩,⟨some 12, 192, none, .bi false .eql (.t 11) (.c (.int .i64 (-1)))⟩])
 (.cond (.t 12) (.seq (.reg [⟨some 13, 208, none, .mv (.t 0)⟩,⟨some 4, 64, none, .mv (.t 13)⟩])
 .ret) .skip))
 (.seq (.seq (.reg [⟨some 14, 224, none, .mv (.t 5)⟩,⟨some 15, 240, none, .bi false .add (.t 14) (.c (.int .i64 1))⟩,⟨some 6, 96, none, .mv (.t 15)⟩])
 (.block 0 (.loop c141L1)))
 (.seq (.reg [⟨some 36, 576, none, .mv (.t 0)⟩,⟨some 37, 592, none, .mv (.t 5)⟩,⟨some 38, 608, none, .slc 1 (.t 36) (some (.t 37)) none⟩,⟨none, 0, none, .clr [(.int .i64 0)] (.t 38)⟩])
 (.seq (.reg [⟨some 39, 624, none, .mv (.t 0)⟩,⟨some 40, 640, none, .mv (.t 5)⟩,⟨some 41, 656, none, .slc 1 (.t 39) none (some (.t 40))⟩,⟨some 4, 64, none, .mv (.t 41)⟩])
 .ret))))))
theorem fits141 : fits Tryz.prog false Tryz.f141 2 42 [(4, none)] = some c141.er := by kernel_rfl
def c74 : C := (.seq (.reg [⟨some 3, 48, none, .bx 1 (.t 0)⟩,⟨some 4, 64, none, .bx 1 (.t 1)⟩,⟨some 5, 80, none, .bx 1 (.t 2)⟩,⟨some 6, 96, none, .mv (.c (.nil 1))⟩,⟨some 7, 112, none, .mv (.c (.int .i64 0))⟩])
 (.seq (.seq (.reg [⟨some 9, 144, none, .ld 1 false (.t 3)⟩,⟨some 10, 160, none, .ld 1 false (.t 4)⟩,⟨some 11, 176, none, .ld 1 false (.t 5)⟩,⟨some 12, 192, none, .call (.c (.fn (.func 73) [] [])) [(.t 9), (.t 10), (.t 11), (.c (.nil 1))]⟩,⟨some 8, 128, none, .mv (.t 12)⟩])
 (.seq (.reg [⟨some 13, 208, none, .mv (.t 8)⟩,⟨some 14, 224, none, .bi false .neq (.t 13) (.c (.int .i64 0))⟩])
 (.cond (.t 14) (.seq (.reg [⟨some 15, 240, none, .mv (.t 8)⟩,⟨some 6, 96, none, .mv (.c (.nil 1))⟩,⟨some 7, 112, none, .mv (.t 15)⟩])
 .ret) .skip)))
 (.seq (.reg [⟨some 16, 256, none, .ld 1 false (.t 3)⟩,⟨some 17, 272, none, .call (.c (.fn (.func 142) [] [])) [(.t 16)]⟩,⟨some 18, 288, none, .mf (.func 143) [] [(.t 3), (.t 4), (.t 5)]⟩,⟨some 19, 304, none, .call (.c (.fn (.func 141) [] [])) [(.t 17), (.t 18)]⟩,⟨some 6, 96, none, .mv (.t 19)⟩,⟨some 7, 112, none, .mv (.c (.int .i64 0))⟩])
 .ret)))
theorem fits74 : fits Tryz.prog false Tryz.f74 3 20 [(6, none), (7, none)] = some c74.er := by kernel_rfl
def keepN (p : Int → Bool) (g : Nat → Int) : Nat → List Int
 | 0 => []
 | n + 1 => if p (g n) = true then keepN p g n else keepN p g n ++ [g n]
theorem keepN_len {p : Int → Bool} {g : Nat → Int} : ∀ n, (keepN p g n).length ≤ n
 | 0 => Nat.le_refl _
 | n + 1 => by
   have := keepN_len (p := p) (g := g) n
   unfold keepN
   split
   ·omega
   ·simp; omega
theorem keepN_all {p : Int → Bool} {g : Nat → Int} : ∀ n, (∀ k, k < n → p (g k) = false) → keepN p g n = (List.range n).map g
 | 0, _ => rfl
 | n + 1, h => by
   unfold keepN
   rw [if_neg (by rw [h n (by omega)]; decide), keepN_all n (fun k hk => h k (by omega)), List.range_succ, List.map_append]
   rfl
theorem keepN_mem {p : Int → Bool} {g : Nat → Int} : ∀ n x, x ∈ keepN p g n → ∃ k, k < n ∧ x = g k ∧ p x = false
 | 0, x, h => by simp [keepN] at h
 | n + 1, x, h => by
   unfold keepN at h
   split at h
   ·obtain ⟨k, h1, h2⟩ := keepN_mem n x h
    exact ⟨k, by omega, h2⟩
   ·rename_i hp
    rcases List.mem_append.1 h with h | h
    ·obtain ⟨k, h1, h2⟩ := keepN_mem n x h
     exact ⟨k, by omega, h2⟩
    ·simp at h
     exact ⟨n, by omega, h, by rw [h]; simpa using hp⟩
def delF (K : List Int) (g : Nat → Int) : Nat → Int := fun k => if k < K.length then K.getD k default else g k
set_option maxRecDepth 100000 in
set_option maxHeartbeats 4000000 in
theorem call141 (σ τ : Nat) (l : List Cd) (hl : l.length ≤ 4611686018427387904) (day level : Int) (n : Nat) (hn : n ≤ 4611686018427387904) (g : Nat → Int) (hg : ∀ k, k < n → 0 ≤ g k ∧ g k < l.length) :
  PureCall Tryz.prog 141 [.os 0, .fn (.func 143) [] [.rp σ [.sl τ 7 l.length (fl eCd l)], .rp σ [.int .i64 day], .rp σ [.int .i64 level]]] [.row 1 3 1 n (eR g)]
   ⟨.os 1000000000, [], [.row 1 3 1 (keepN (goneB l day level) g n).length (fl eInt (keepN (goneB l day level) g n))]⟩ := by
 refine pure_call mix Tryz.func141 fits141 rfl ?_
 conv => whnf
 refine ⟨_, fun _ => call122 _ _ τ l hl day level n hn g hg, ?_⟩
 conv => whnf
 refine ⟨?_, fun hc => ?_, fun hc => ?_⟩
 ·exact g0
 ·replace hc := of_decide_eq_true hc
  have hall := ixF_neg (p := goneB l day level) (g := g) (n := n) (i := 0) (by omega)
  rw [keepN_all n (fun k hk => hall k (by omega) (by omega))]
  conv => whnf
  refine ⟨?_, [0], ?_⟩
  ·exact g0
  conv => whnf
  refine ⟨rfl, ?_, trivial, ?_⟩
  all_goals repeat' (first | exact True.intro | refine leF_cons rfl ?_ ?_ | refine leS_cons rfl ?_ ?_ | (show PLe _ _ _ _; conv => whnf) | (show SLe _ _ _ _; conv => whnf) | (show PLeL _ _ _ _; conv => whnf) | apply And.intro | rfl | exact Nat.le_refl _ | exact fun _ _ => rfl | exact rowEq0 _ _)
  all_goals first | (simp; done) | skip
  all_goals
   intro k hk
   show [PV.int .i64 (g k)] = eInt (((List.range n).map g).getD k default)
   rw [List.getD_eq_getElem?_getD, List.getElem?_map, List.getElem?_range hk]
   rfl
 ·replace hc := of_decide_eq_false hc
  obtain ⟨i0, hi0, _, hlt0, hp0, hall⟩ := ixF_pos (p := goneB l day level) (g := g) (n := n) (i := 0) (by
   rcases Int.lt_or_le (ixF (goneB l day level) g 0 n) 0 with h | h
   ·exfalso
    have : ∀ (n i : Nat), -1 ≤ ixF (goneB l day level) g i n := fun n => by
     induction n with
     | zero => intro i; exact Int.le_refl _
     | succ n ih => intro i; unfold ixF; split
                    ·omega
                    ·exact ih _
    have := this n 0
    omega
   ·exact h)
  rw [hi0]
  conv => whnf
  refine ⟨?_, ?_⟩
  ·exact g0
  have hk0 : keepN (goneB l day level) g (i0 + 1) = (List.range i0).map g := by
   unfold keepN
   rw [if_pos hp0, keepN_all i0 (fun k hk => hall k (by omega) hk)]
  refine LSem.loop (n := 42) mix (α := Nat) (fun i => i ≤ n)
   (fun i => [(0, .os 0), (1, .fn (.func 143) [] [.rp σ [.sl τ 7 l.length (fl eCd l)], .rp σ [.int .i64 day], .rp σ [.int .i64 level]]), (5, .int .i64 (keepN (goneB l day level) g i).length), (6, .int .i64 i)])
   (fun i => [(0, .row 1 3 1 n (eR (delF (keepN (goneB l day level) g i) g)))]) (fun i => n - i) (i0 + 1) ?_ ?_ ?_
  ·show i0 + 1 ≤ n; omega
  ·refine ⟨rfl, rfl, ?_, ?_⟩
   all_goals repeat' (first | exact True.intro | refine leF_cons rfl ?_ ?_ | refine leS_cons rfl ?_ ?_ | (show PLe _ _ _ _; conv => whnf) | (show SLe _ _ _ _; conv => whnf) | (show PLeL _ _ _ _; conv => whnf) | apply And.intro | rfl | exact Nat.le_refl _ | exact fun _ _ => rfl | exact rowEq0 _ _)
   all_goals first | (rw [hk0]; simp; done) | skip
   all_goals
    intro k hk
    rw [hk0]
    unfold delF eR
    dsimp only
    by_cases h : k < ((List.range i0).map g).length
    ·rw [if_pos h, List.getD_eq_getElem?_getD, List.getElem?_map, List.getElem?_range (by simpa using h)]
     rfl
    ·rw [if_neg h]
  ·intro i hi
   have hj : ((i : Int)).toNat = i := by omega
   have hkl := keepN_len (p := goneB l day level) (g := g) i
   have hd : delF (keepN (goneB l day level) g i) g i = g i := if_neg (by omega)
   conv => whnf
   refine ⟨trivial, fun hc => ?_, fun hc => ?_⟩
   ·replace hc := of_decide_eq_true hc
    have hlt : i < n := by omega
    conv => whnf
    refine ⟨_, fun _ => call143 _ _ τ l hl day level (delF (keepN (goneB l day level) g i) g ((i : Int)).toNat) (by rw [hj, hd]; exact hg i hlt), ?_⟩
    rw [hj, hd]
    conv => whnf
    refine ⟨?_, fun hc2 => ?_, fun hc2 => ?_⟩
    ·exact g0
    ·have hk1 : keepN (goneB l day level) g (i + 1) = keepN (goneB l day level) g i ++ [g i] := by
      rw [keepN, if_neg (by intro h; rw [h] at hc2; cases hc2)]
     conv => whnf
     refine ⟨?_, i + 1, hlt, ?_, rfl, rfl, ?_, ?_⟩
     ·exact g0
     ·omega
     all_goals repeat' (first | exact True.intro | refine leF_cons rfl ?_ ?_ | refine leS_cons rfl ?_ ?_ | (show PLe _ _ _ _; conv => whnf) | (show SLe _ _ _ _; conv => whnf) | (show PLeL _ _ _ _; conv => whnf) | apply And.intro | rfl | exact Nat.le_refl _ | exact fun _ _ => rfl | exact rowEq0 _ _)
     all_goals first | (rw [hk1]; simp; done) | skip
     all_goals
      intro k hk
      rw [hk1]
      have e3 : ((keepN (goneB l day level) g i).length : Int).toNat = (keepN (goneB l day level) g i).length := by omega
      dsimp only
      rw [e3]
      unfold delF eR
      dsimp only
      rw [List.length_append]
      simp only [List.length_cons, List.length_nil]
      by_cases h1 : k = (keepN (goneB l day level) g i).length
      ·subst h1
       simp [setAt, PV.cells]
      ·rw [if_neg h1]
       by_cases h2 : k < (keepN (goneB l day level) g i).length
       ·rw [if_pos h2, if_pos (by omega), List.getD_eq_getElem?_getD, List.getD_eq_getElem?_getD, List.getElem?_append_left h2]
       ·rw [if_neg h2, if_neg (by omega)]
    ·have hk1 : keepN (goneB l day level) g (i + 1) = keepN (goneB l day level) g i := by
      rw [keepN, if_pos (by cases hq : goneB l day level (g i) with | true => rfl | false => rw [hq] at hc2; cases hc2)]
     conv => whnf
     refine ⟨?_, i + 1, hlt, ?_, rfl, rfl, ?_, ?_⟩
     ·exact g0
     ·omega
     all_goals repeat' (first | exact True.intro | refine leF_cons rfl ?_ ?_ | refine leS_cons rfl ?_ ?_ | (show PLe _ _ _ _; conv => whnf) | (show SLe _ _ _ _; conv => whnf) | (show PLeL _ _ _ _; conv => whnf) | apply And.intro | rfl | exact Nat.le_refl _ | exact fun _ _ => rfl | exact rowEq0 _ _)
     all_goals first | (rw [hk1]; done) | skip
     all_goals (rw [hk1]; exact fun _ _ => rfl)
   ·replace hc := of_decide_eq_false hc
    have : i = n := by
     have : ¬ i < n := by omega
     omega
    subst this
    conv => whnf
    refine ⟨?_, [0], ?_⟩
    ·exact g0
    conv => whnf
    refine ⟨rfl, ?_, trivial, ?_⟩
    all_goals repeat' (first | exact True.intro | refine leF_cons rfl ?_ ?_ | refine leS_cons rfl ?_ ?_ | (show PLe _ _ _ _; conv => whnf) | (show SLe _ _ _ _; conv => whnf) | (show PLeL _ _ _ _; conv => whnf) | apply And.intro | rfl | exact Nat.le_refl _ | exact fun _ _ => rfl | exact rowEq0 _ _)
    all_goals
     intro k hk
     have e3 : ((keepN (goneB l day level) g i).length : Int).toNat = (keepN (goneB l day level) g i).length := by omega
     rw [e3] at hk
     dsimp only
     rw [e3, if_neg (by omega)]
     unfold eR delF fl eInt
     rw [if_pos hk]
def actF (l : List Cd) (day level : Int) : List Int := keepN (goneB l day level) (ordF l) l.length
theorem ordF_in (l : List Cd) : ∀ k, k < l.length → 0 ≤ ordF l k ∧ ordF l k < l.length :=
 insN_in (p := fun x => 0 ≤ x ∧ x < l.length) _ (fun k hk => by omega) l.length (Nat.le_refl _)
def askE (l : List Cd) (day level : Int) (fs : List Int) : Int := if limC l ≠ 0 then limC l else if wi day 364 = false ∨ wi level 16777216 = false ∨ fs.any (fun n => !wi n 1073741824) = true then 1 else 0
end Pv
end Go.Proofs.YtdcgnfkkklbckaaGreatDoor
/- TOP, THE WALKS: what is asked for; the conditions that apply; what a condition permits. -/
set_option linter.unusedSimpArgs false
set_option linter.unusedVariables false
namespace Go.Proofs.YtdcgnfkkklbckaaGreatDoor
namespace Pv
def c140 : C := (.seq (.reg [⟨some 2, 32, none, .mv (.c (.bool false))⟩])
 (.seq (.reg [⟨some 3, 48, none, .mv (.t 0)⟩,⟨some 4, 64, none, .call (.c (.fn (.func 56) [] [])) [(.t 3), (.c (.int .i64 1073741824))]⟩,⟨some 5, 80, none, .un false .not (.t 4)⟩,⟨some 2, 32, none, .mv (.t 5)⟩])
 .ret))
theorem fits140 : fits Tryz.prog false Tryz.f140 1 6 [(2, none)] = some c140.er := by kernel_rfl
def c54 : C := (.seq (.reg [⟨some 4, 64, none, .mv (.c (.bool false))⟩])
 (.seq (.reg [⟨some 5, 80, none, .mv (.t 0)⟩,⟨some 6, 96, none, .mv (.t 1)⟩,⟨some 7, 112, none, .call (.c (.fn (.func 122) [] [])) [(.t 5), (.t 6)]⟩,⟨some 8, 128, none, .bi false .geq (.t 7) (.c (.int .i64 0))⟩,⟨some 4, 64, none, .mv (.t 8)⟩])
 .ret))
theorem fits54 : fits Tryz.prog false Tryz.f54 2 9 [(4, none)] = some c54.er := by kernel_rfl
def c73 : C := (.seq (.reg [⟨some 8, 128, none, .mv (.c (.int .i64 0))⟩])
 (.seq (.seq (.reg [⟨some 10, 160, none, .mv (.t 0)⟩,⟨some 11, 176, none, .call (.c (.fn (.func 62) [] [])) [(.t 10)]⟩,⟨some 9, 144, none, .mv (.t 11)⟩])
 (.seq (.reg [⟨some 12, 192, none, .mv (.t 9)⟩,⟨some 13, 208, none, .bi false .neq (.t 12) (.c (.int .i64 0))⟩])
 (.cond (.t 13) (.seq (.reg [⟨some 14, 224, none, .mv (.t 9)⟩,⟨some 8, 128, none, .mv (.t 14)⟩])
 .ret) .skip)))
 (.seq (.seq (.reg [⟨some 15, 240, none, .mv (.t 1)⟩,⟨some 16, 256, none, .call (.c (.fn (.func 139) [] [])) [(.t 15)]⟩,⟨some 17, 272, none, .un false .not (.t 16)⟩,⟨some 18, 288, none, .mv (.t 17)⟩,⟨some 19, 304, (some (18, false)), .mv (.t 2)⟩,⟨some 20, 320, (some (18, false)), .call (.c (.fn (.func 56) [] [])) [(.t 19), (.c (.int .i64 16777216))]⟩,⟨some 21, 336, (some (18, false)), .un false .not (.t 20)⟩,⟨some 22, 352, none, .pick (.t 18) (.c (.bool true)) (.t 21)⟩,⟨some 23, 368, none, .mv (.t 22)⟩,⟨some 24, 384, (some (23, false)), .mv (.t 3)⟩,⟨some 25, 400, (some (23, false)), .call (.c (.fn (.func 54) [] [])) [(.t 24), (.c (.fn (.func 140) [] []))]⟩,⟨some 26, 416, none, .pick (.t 23) (.c (.bool true)) (.t 25)⟩])
 (.cond (.t 26) (.seq (.reg [⟨some 8, 128, none, .mv (.c (.int .i64 1))⟩])
 .ret) .skip))
 (.seq (.reg [⟨some 8, 128, none, .mv (.c (.int .i64 0))⟩])
 .ret))))
theorem fits73 : fits Tryz.prog false Tryz.f73 4 27 [(8, none)] = some c73.er := by kernel_rfl
def c138 : C := (.seq (.reg [⟨some 3, 48, none, .bx 2 (.t 1)⟩,⟨some 4, 64, none, .mv (.c (.int .i64 0))⟩])
 (.seq (.reg [⟨some 5, 80, none, .mv (.t 0)⟩,⟨some 6, 96, none, .fa 1 (.t 3)⟩,⟨some 7, 112, none, .ld 1 false (.t 6)⟩,⟨some 8, 128, none, .mn [(.t 5), (.t 7)]⟩,⟨some 9, 144, none, .fa 0 (.t 3)⟩,⟨some 10, 160, none, .ld 1 false (.t 9)⟩,⟨some 11, 176, none, .mx [(.t 8), (.t 10)]⟩,⟨some 4, 64, none, .mv (.t 11)⟩])
 .ret))
theorem fits138 : fits Tryz.prog false Tryz.f138 2 12 [(4, none)] = some c138.er := by kernel_rfl
def c145 : C := (.seq (.reg [⟨some 2, 32, none, .bx 7 (.t 0)⟩,⟨some 4, 64, none, .al [(.int .i64 0), (.int .i64 0)]⟩])
 (.seq (.reg [⟨some 7, 112, none, .bd [(.int .i64 0), (.int .i64 0)] [(1, 1, (.c (.int .i64 1073741824)))]⟩,⟨some 5, 80, none, .al [(.int .i64 0), (.int .i64 0)]⟩,⟨none, 0, none, .st 2 (.t 5) (.t 7)⟩])
 (.seq (.reg [⟨some 8, 128, none, .fa 1 (.t 2)⟩,⟨some 9, 144, none, .ld 1 false (.t 8)⟩,⟨some 10, 160, none, .iaa 5 2 (.c (.rp 1 [(.bool false), (.bool false), (.bool true), (.bool false), (.bool false), (.bool false), (.bool false), (.bool true), (.bool true), (.bool true)])) (.t 9)⟩,⟨some 11, 176, none, .ld 2 true (.t 10)⟩,⟨some 6, 96, none, .al [(.bool false), (.bool false)]⟩,⟨none, 0, none, .st 2 (.t 6) (.t 11)⟩])
 (.seq (.block 0 (.seq (.reg [⟨some 16, 256, none, .fa 0 (.t 6)⟩,⟨some 17, 272, none, .ld 1 false (.t 16)⟩,⟨some 18, 288, none, .mv (.t 17)⟩,⟨some 19, 304, (some (18, true)), .fa 1 (.t 6)⟩,⟨some 20, 320, (some (18, true)), .ld 1 false (.t 19)⟩,⟨some 21, 336, none, .pick (.t 18) (.t 20) (.c (.bool false))⟩,⟨some 15, 240, none, .mv (.t 21)⟩])
 (.cond (.t 15) (.reg [⟨some 22, 352, none, .mv (.t 1)⟩,⟨some 23, 368, none, .fa 2 (.t 2)⟩,⟨some 24, 384, none, .ld 1 false (.t 23)⟩,⟨some 25, 400, none, .bi false .sub (.t 22) (.t 24)⟩,⟨some 26, 416, none, .mx [(.t 25), (.c (.int .i64 0))]⟩,⟨some 27, 432, none, .fa 0 (.t 5)⟩,⟨none, 0, none, .st 1 (.t 27) (.t 26)⟩]) (.seq (.reg [⟨some 29, 464, none, .fa 1 (.t 6)⟩,⟨some 30, 480, none, .ld 1 false (.t 29)⟩,⟨some 28, 448, none, .mv (.t 30)⟩])
 (.cond (.t 28) (.reg [⟨some 31, 496, none, .mv (.t 1)⟩,⟨some 32, 512, none, .fa 2 (.t 2)⟩,⟨some 33, 528, none, .ld 1 false (.t 32)⟩,⟨some 34, 544, none, .bi false .add (.t 31) (.t 33)⟩,⟨some 35, 560, none, .mn [(.t 34), (.c (.int .i64 1073741824))]⟩,⟨some 36, 576, none, .fa 1 (.t 5)⟩,⟨none, 0, none, .st 1 (.t 36) (.t 35)⟩]) (.seq (.reg [⟨some 38, 608, none, .fa 0 (.t 6)⟩,⟨some 39, 624, none, .ld 1 false (.t 38)⟩,⟨some 37, 592, none, .mv (.t 39)⟩])
 (.cond (.t 37) (.reg [⟨some 40, 640, none, .fa 2 (.t 2)⟩,⟨some 41, 656, none, .ld 1 false (.t 40)⟩,⟨some 42, 672, none, .fa 0 (.t 5)⟩,⟨none, 0, none, .st 1 (.t 42) (.t 41)⟩]) (.reg [⟨some 12, 192, none, .fa 2 (.t 2)⟩,⟨some 13, 208, none, .ld 1 false (.t 12)⟩,⟨some 14, 224, none, .fa 1 (.t 5)⟩,⟨none, 0, none, .st 1 (.t 14) (.t 13)⟩]))))))))
 (.seq (.reg [⟨some 43, 688, none, .ld 2 true (.t 5)⟩,⟨none, 0, none, .st 2 (.t 4) (.t 43)⟩])
 .ret)))))
theorem fits145 : fits Tryz.prog false Tryz.f145 2 44 [(4, some (2, true))] = some c145.er := by kernel_rfl
def c79 : C := (.seq (.reg [⟨some 2, 32, none, .bx 7 (.t 0)⟩,⟨some 4, 64, none, .al [(.int .i64 0), (.int .i64 0)]⟩,⟨some 5, 80, none, .mv (.c (.bool false))⟩])
 (.seq (.seq (.reg [⟨some 6, 96, none, .ld 7 true (.t 2)⟩,⟨some 7, 112, none, .call (.c (.fn (.func 70) [] [])) [(.t 6)]⟩,⟨some 8, 128, none, .bi false .neq (.t 7) (.c (.int .i64 0))⟩,⟨some 9, 144, none, .mv (.t 8)⟩,⟨some 10, 160, (some (9, false)), .mv (.t 1)⟩,⟨some 11, 176, (some (9, false)), .call (.c (.fn (.func 56) [] [])) [(.t 10), (.c (.int .i64 1073741824))]⟩,⟨some 12, 192, (some (9, false)), .un false .not (.t 11)⟩,⟨some 13, 208, none, .pick (.t 9) (.c (.bool true)) (.t 12)⟩])
 (.cond (.t 13) (.seq (.reg [⟨some 14, 224, none, .bd [(.int .i64 0), (.int .i64 0)] []⟩,⟨none, 0, none, .st 2 (.t 4) (.t 14)⟩,⟨some 5, 80, none, .mv (.c (.bool false))⟩])
 .ret) .skip))
 (.seq (.reg [⟨some 15, 240, none, .ld 7 true (.t 2)⟩,⟨some 16, 256, none, .mv (.t 1)⟩,⟨some 17, 272, none, .call (.c (.fn (.func 145) [] [])) [(.t 15), (.t 16)]⟩,⟨none, 0, none, .st 2 (.t 4) (.t 17)⟩,⟨some 5, 80, none, .mv (.c (.bool true))⟩])
 .ret)))
theorem fits79 : fits Tryz.prog false Tryz.f79 2 18 [(4, some (2, true)), (5, none)] = some c79.er := by kernel_rfl
def c71 : C := (.seq (.reg [⟨some 10, 160, none, .bx 2 (.t 4)⟩,⟨some 12, 192, none, .mv (.c (.int .i64 0))⟩])
 (.seq (.seq (.reg [⟨some 14, 224, none, .mv (.t 0)⟩,⟨some 15, 240, none, .mv (.t 1)⟩,⟨some 16, 256, none, .mv (.t 2)⟩,⟨some 17, 272, none, .mv (.t 3)⟩,⟨some 18, 288, none, .mv (.t 5)⟩,⟨some 19, 304, none, .fa 0 (.t 10)⟩,⟨some 20, 320, none, .ld 1 false (.t 19)⟩,⟨some 21, 336, none, .fa 1 (.t 10)⟩,⟨some 22, 352, none, .ld 1 false (.t 21)⟩,⟨some 23, 368, none, .bs 3 1 [(.t 17), (.t 18), (.t 20), (.t 22)]⟩,⟨some 24, 384, none, .call (.c (.fn (.func 73) [] [])) [(.t 14), (.t 15), (.t 16), (.t 23)]⟩,⟨some 13, 208, none, .mv (.t 24)⟩])
 (.seq (.reg [⟨some 25, 400, none, .mv (.t 13)⟩,⟨some 26, 416, none, .bi false .neq (.t 25) (.c (.int .i64 0))⟩])
 (.cond (.t 26) (.seq (.reg [⟨some 27, 432, none, .mv (.t 13)⟩,⟨some 12, 192, none, .mv (.t 27)⟩])
 .ret) .skip)))
 (.seq (.seq (.reg [⟨some 28, 448, none, .fa 0 (.t 10)⟩,⟨some 29, 464, none, .ld 1 false (.t 28)⟩,⟨some 30, 480, none, .fa 1 (.t 10)⟩,⟨some 31, 496, none, .ld 1 false (.t 30)⟩,⟨some 32, 512, none, .bi false .gtr (.t 29) (.t 31)⟩])
 (.cond (.t 32) (.seq (.reg [⟨some 12, 192, none, .mv (.c (.int .i64 3))⟩])
 .ret) .skip))
 (.seq (.reg [⟨some 12, 192, none, .mv (.c (.int .i64 0))⟩])
 .ret))))
theorem fits71 : fits Tryz.prog false Tryz.f71 6 33 [(12, none)] = some c71.er := by kernel_rfl
theorem call140 (n : Int) : PureCall Tryz.prog 140 [.int .i64 n] [] ⟨.bool (!wi n 1073741824), [], []⟩ := by
 refine pure_call mix Tryz.func140 fits140 rfl ?_
 conv => whnf
 refine ⟨_, fun _ => call56 n 1073741824, ?_⟩
 conv => whnf
 refine ⟨?_, [], ?_⟩
 ·exact g0
 conv => whnf
 refine ⟨rfl, ?_, trivial, trivial⟩
 all_goals repeat' (first | exact True.intro | refine leF_cons rfl ?_ ?_ | refine leS_cons rfl ?_ ?_ | (show PLe _ _ _ _; conv => whnf) | (show SLe _ _ _ _; conv => whnf) | (show PLeL _ _ _ _; conv => whnf) | apply And.intro | rfl | exact Nat.le_refl _ | exact fun _ _ => rfl | exact rowEq0 _ _)
theorem call122f (ρ : Nat) (l : List Int) (hn : l.length ≤ 4611686018427387904) (hg : ∀ x ∈ l, wi x 1073741824 = true) :
  PureCall Tryz.prog 122 [.sl ρ 1 l.length (fl eInt l), .fn (.func 140) [] []] [] ⟨.int .i64 (-1), [], []⟩ := by
 refine pure_call mix Tryz.func122 fits122 rfl ?_
 conv => whnf
 refine ⟨trivial, ?_⟩
 refine LSem.loop (n := 19) mix (α := Nat) (fun i => i ≤ l.length)
  (fun i => [(0, .sl ρ 1 l.length (fl eInt l)), (1, .fn (.func 140) [] []), (7, .int .i64 l.length), (8, .int .i64 i)])
  (fun i => []) (fun i => l.length - i) 0 ?_ ?_ ?_
 ·exact Nat.zero_le _
 ·refine ⟨rfl, rfl, ?_, ?_⟩
  all_goals repeat' (first | exact True.intro | refine leF_cons rfl ?_ ?_ | refine leS_cons rfl ?_ ?_ | (show PLe _ _ _ _; conv => whnf) | (show SLe _ _ _ _; conv => whnf) | (show PLeL _ _ _ _; conv => whnf) | apply And.intro | rfl | exact Nat.le_refl _ | exact fun _ _ => rfl | exact rowEq0 _ _)
 ·intro i hi
  have hj : ((i : Int)).toNat = i := by omega
  conv => whnf
  refine ⟨trivial, fun hc => ?_, fun hc => ?_⟩
  ·replace hc := of_decide_eq_true hc
   have hlt : i < l.length := by omega
   have hm : l.getD i default ∈ l := by
    rw [List.getD_eq_getElem?_getD, List.getElem?_eq_getElem hlt]; exact List.getElem_mem hlt
   conv => whnf
   refine ⟨_, fun _ => call140 (l.getD ((i : Int)).toNat default), ?_⟩
   rw [hj, hg _ hm]
   conv => whnf
   refine ⟨?_, fun hc2 => (by cases hc2), fun hc2 => ?_⟩
   ·exact g0
   conv => whnf
   refine ⟨?_, i + 1, hlt, ?_, rfl, rfl, ?_, ?_⟩
   ·exact g0
   ·omega
   all_goals repeat' (first | exact True.intro | refine leF_cons rfl ?_ ?_ | refine leS_cons rfl ?_ ?_ | (show PLe _ _ _ _; conv => whnf) | (show SLe _ _ _ _; conv => whnf) | (show PLeL _ _ _ _; conv => whnf) | apply And.intro | rfl | exact Nat.le_refl _ | exact fun _ _ => rfl | exact rowEq0 _ _)
   all_goals omega
  ·replace hc := of_decide_eq_false hc
   conv => whnf
   refine ⟨?_, [], ?_⟩
   ·exact g0
   conv => whnf
   refine ⟨rfl, ?_, trivial, trivial⟩
   all_goals repeat' (first | exact True.intro | refine leF_cons rfl ?_ ?_ | refine leS_cons rfl ?_ ?_ | (show PLe _ _ _ _; conv => whnf) | (show SLe _ _ _ _; conv => whnf) | (show PLeL _ _ _ _; conv => whnf) | apply And.intro | rfl | exact Nat.le_refl _ | exact fun _ _ => rfl | exact rowEq0 _ _)
theorem call54f (ρ : Nat) (l : List Int) (hn : l.length ≤ 4611686018427387904) (hg : ∀ x ∈ l, wi x 1073741824 = true) :
  PureCall Tryz.prog 54 [.sl ρ 1 l.length (fl eInt l), .fn (.func 140) [] []] [] ⟨.bool false, [], []⟩ := by
 refine pure_call mix Tryz.func54 fits54 rfl ?_
 conv => whnf
 refine ⟨_, fun _ => call122f _ l hn hg, ?_⟩
 conv => whnf
 refine ⟨?_, [], ?_⟩
 ·exact g0
 conv => whnf
 refine ⟨rfl, ?_, trivial, trivial⟩
 all_goals repeat' (first | exact True.intro | refine leF_cons rfl ?_ ?_ | refine leS_cons rfl ?_ ?_ | (show PLe _ _ _ _; conv => whnf) | (show SLe _ _ _ _; conv => whnf) | (show PLeL _ _ _ _; conv => whnf) | apply And.intro | rfl | exact Nat.le_refl _ | exact fun _ _ => rfl | exact rowEq0 _ _)
theorem call73 (τ ρ : Nat) (l : List Cd) (day level : Int) (fs : List Int) (hn : fs.length ≤ 4611686018427387904) (hl : limC l = 0) (hd : wi day 364 = true) (hv : wi level 16777216 = true) (hg : ∀ x ∈ fs, wi x 1073741824 = true) :
  PureCall Tryz.prog 73 [.sl τ 7 l.length (fl eCd l), .int .i64 day, .int .i64 level, .sl ρ 1 fs.length (fl eInt fs)] [] ⟨.int .i64 0, [], []⟩ := by
 refine pure_call mix Tryz.func73 fits73 rfl ?_
 conv => whnf
 refine ⟨_, fun _ => call62 _ l, ?_⟩
 conv => whnf
 rw [hl]
 refine ⟨?_, fun hc => (by cases hc), fun _ => ?_⟩
 ·exact g0
 conv => whnf
 refine ⟨_, fun _ => call139 day, ?_⟩
 conv => whnf
 refine ⟨_, fun _ => call56 level 16777216, ?_⟩
 conv => whnf
 refine ⟨_, fun _ => call54f _ fs hn hg, ?_⟩
 conv => whnf
 rw [hd, hv]
 refine ⟨?_, fun hc => (by cases hc), fun _ => ?_⟩
 ·exact g0
 conv => whnf
 refine ⟨?_, [], ?_⟩
 ·exact g0
 conv => whnf
 refine ⟨rfl, ?_, trivial, trivial⟩
 all_goals repeat' (first | exact True.intro | refine leF_cons rfl ?_ ?_ | refine leS_cons rfl ?_ ?_ | (show PLe _ _ _ _; conv => whnf) | (show SLe _ _ _ _; conv => whnf) | (show PLeL _ _ _ _; conv => whnf) | apply And.intro | rfl | exact Nat.le_refl _ | exact fun _ _ => rfl | exact rowEq0 _ _)
theorem call73n (τ : Nat) (l : List Cd) (day level : Int) (hl : limC l = 0) (hd : wi day 364 = true) (hv : wi level 16777216 = true) :
  PureCall Tryz.prog 73 [.sl τ 7 l.length (fl eCd l), .int .i64 day, .int .i64 level, .nil 1] [] ⟨.int .i64 0, [], []⟩ := by
 refine PureCall.arg_le (call73 τ 0 l day level [] (Nat.zero_le _) hl hd hv (fun x hx => by cases hx)) rfl ?_
 exact ent
theorem call74 (l : List Cd) (day level : Int) (h20 : l.length < 20) (hl : limC l = 0) (hd : wi day 364 = true) (hv : wi level 16777216 = true) :
  PureCall Tryz.prog 74 [.sl 2 7 l.length (fl eCd l), .int .i64 day, .int .i64 level] [] ⟨.tup [.os 1000000000, .int .i64 0], [], [.row 1 3 1 (actF l day level).length (fl eInt (actF l day level))]⟩ := by
 refine pure_call mix Tryz.func74 fits74 rfl ?_
 conv => whnf
 refine ⟨_, fun _ => call73n _ l day level hl hd hv, ?_⟩
 conv => whnf
 refine ⟨?_, fun hc => (by cases hc), fun _ => ?_⟩
 ·exact g0
 conv => whnf
 refine ⟨_, fun _ => call142 l h20, ?_⟩
 conv => whnf
 refine ⟨_, fun _ => call141 _ _ l (by omega) day level l.length (by omega) (ordF l) (ordF_in l), ?_⟩
 conv => whnf
 refine ⟨?_, [272], ?_⟩
 ·exact g0
 conv => whnf
 refine ⟨rfl, ?_, trivial, ?_⟩
 all_goals repeat' (first | exact True.intro | refine leF_cons rfl ?_ ?_ | refine leS_cons rfl ?_ ?_ | (show PLe _ _ _ _; conv => whnf) | (show SLe _ _ _ _; conv => whnf) | (show PLeL _ _ _ _; conv => whnf) | apply And.intro | rfl | exact Nat.le_refl _ | exact fun _ _ => rfl | exact rowEq0 _ _)
 all_goals exact fun _ _ => rfl
def permF (c : Cd) (b : Int) : Int × Int :=
 if c.k = 1 then (c.v, 1073741824) else if c.k = 2 then (0, c.v) else if c.k = 3 then (0, min (b + c.v) 1073741824) else (max (b - c.v) 0, 1073741824)
set_option maxRecDepth 100000 in
theorem call145 (c : Cd) (b : Int) (hc : oneC c = 0) (hb : wi b 1073741824 = true) :
  PureCall Tryz.prog 145 [.agg (eCd c), .int .i64 b] [] ⟨.agg [.int .i64 (permF c b).1, .int .i64 (permF c b).2], [], []⟩ := by
 obtain ⟨h1, h2, h3⟩ := oneC_ok hc
 have hb2 := (wi_iff _ _).1 hb
 unfold badC at h3
 obtain ⟨r, k, v, f, u, a, z⟩ := c
 dsimp only at h1 h2 h3
 have hk : k = 1 ∨ k = 2 ∨ k = 3 ∨ k = 4 := by omega
 have hv : 0 ≤ v ∧ v ≤ 1073741824 := by
  refine Decidable.byContradiction fun h => h3 (.inl h)
 refine pure_call mix Tryz.func145 fits145 rfl ?_
 rcases hk with rfl | rfl | rfl | rfl
 ·rw [show permF ⟨r, 1, v, f, u, a, z⟩ b = (v, 1073741824) by simp [permF]]
  conv => whnf
  refine ⟨?_, fun hc => absurd hc (by decide), fun _ => ?_⟩
  ·exact g0
  conv => whnf
  refine ⟨?_, fun hc => absurd hc (by decide), fun _ => ?_⟩
  ·exact g0
  conv => whnf
  refine ⟨?_, fun _ => ?_, fun hc => absurd hc (by decide)⟩
  ·exact g0
  conv => whnf
  refine ⟨?_, [], ?_⟩
  ·exact g0
  conv => whnf
  refine ⟨rfl, ?_, trivial, trivial⟩
  all_goals repeat' (first | exact True.intro | refine leF_cons rfl ?_ ?_ | refine leS_cons rfl ?_ ?_ | (show PLe _ _ _ _; conv => whnf) | (show SLe _ _ _ _; conv => whnf) | (show PLeL _ _ _ _; conv => whnf) | apply And.intro | rfl | exact Nat.le_refl _ | exact fun _ _ => rfl | exact rowEq0 _ _)
 ·rw [show permF ⟨r, 2, v, f, u, a, z⟩ b = (0, v) by simp [permF]]
  conv => whnf
  refine ⟨?_, fun hc => absurd hc (by decide), fun _ => ?_⟩
  ·exact g0
  conv => whnf
  refine ⟨?_, fun hc => absurd hc (by decide), fun _ => ?_⟩
  ·exact g0
  conv => whnf
  refine ⟨?_, fun hc => absurd hc (by decide), fun _ => ?_⟩
  ·exact g0
  conv => whnf
  refine ⟨?_, [], ?_⟩
  ·exact g0
  conv => whnf
  refine ⟨rfl, ?_, trivial, trivial⟩
  all_goals repeat' (first | exact True.intro | refine leF_cons rfl ?_ ?_ | refine leS_cons rfl ?_ ?_ | (show PLe _ _ _ _; conv => whnf) | (show SLe _ _ _ _; conv => whnf) | (show PLeL _ _ _ _; conv => whnf) | apply And.intro | rfl | exact Nat.le_refl _ | exact fun _ _ => rfl | exact rowEq0 _ _)
 ·rw [show permF ⟨r, 3, v, f, u, a, z⟩ b = (0, min (b + v) 1073741824) by simp [permF]]
  conv => whnf
  refine ⟨?_, fun hc => absurd hc (by decide), fun _ => ?_⟩
  ·exact g0
  conv => whnf
  refine ⟨?_, fun _ => ?_, fun hc => absurd hc (by decide)⟩
  ·exact g0
  conv => whnf
  refine ⟨?_, [], ?_⟩
  ·exact g0
  conv => whnf
  refine ⟨rfl, ?_, trivial, trivial⟩
  all_goals repeat' (first | exact True.intro | refine leF_cons rfl ?_ ?_ | refine leS_cons rfl ?_ ?_ | (show PLe _ _ _ _; conv => whnf) | (show SLe _ _ _ _; conv => whnf) | (show PLeL _ _ _ _; conv => whnf) | apply And.intro | rfl | exact Nat.le_refl _ | exact fun _ _ => rfl | exact rowEq0 _ _)
  all_goals (dsimp only; split <;> omega)
 ·rw [show permF ⟨r, 4, v, f, u, a, z⟩ b = (max (b - v) 0, 1073741824) by simp [permF]]
  conv => whnf
  refine ⟨?_, fun _ => ?_, fun hc => absurd hc (by decide)⟩
  ·exact g0
  conv => whnf
  refine ⟨?_, [], ?_⟩
  ·exact g0
  conv => whnf
  refine ⟨rfl, ?_, trivial, trivial⟩
  all_goals repeat' (first | exact True.intro | refine leF_cons rfl ?_ ?_ | refine leS_cons rfl ?_ ?_ | (show PLe _ _ _ _; conv => whnf) | (show SLe _ _ _ _; conv => whnf) | (show PLeL _ _ _ _; conv => whnf) | apply And.intro | rfl | exact Nat.le_refl _ | exact fun _ _ => rfl | exact rowEq0 _ _)
  all_goals (dsimp only; split <;> omega)
set_option maxRecDepth 100000 in
theorem call79 (c : Cd) (b : Int) (hc : oneC c = 0) (hb : wi b 1073741824 = true) :
  PureCall Tryz.prog 79 [.agg (eCd c), .int .i64 b] [] ⟨.tup [.agg [.int .i64 (permF c b).1, .int .i64 (permF c b).2], .bool true], [], []⟩ := by
 refine pure_call mix Tryz.func79 fits79 rfl ?_
 conv => whnf
 refine ⟨_, fun _ => call70 c, ?_⟩
 conv => whnf
 refine ⟨_, fun _ => call56 b 1073741824, ?_⟩
 conv => whnf
 rw [hc, hb]
 refine ⟨?_, fun hc => absurd hc (by decide), fun _ => ?_⟩
 ·exact g0
 conv => whnf
 refine ⟨_, fun _ => call145 c b hc hb, ?_⟩
 conv => whnf
 refine ⟨?_, [], ?_⟩
 ·exact g0
 conv => whnf
 refine ⟨rfl, ?_, trivial, trivial⟩
 all_goals repeat' (first | exact True.intro | refine leF_cons rfl ?_ ?_ | refine leS_cons rfl ?_ ?_ | (show PLe _ _ _ _; conv => whnf) | (show SLe _ _ _ _; conv => whnf) | (show PLeL _ _ _ _; conv => whnf) | apply And.intro | rfl | exact Nat.le_refl _ | exact fun _ _ => rfl | exact rowEq0 _ _)
def clampF (n lo hi : Int) : Int := max (min n hi) lo
theorem call138 (n lo hi : Int) : PureCall Tryz.prog 138 [.int .i64 n, .agg [.int .i64 lo, .int .i64 hi]] [] ⟨.int .i64 (clampF n lo hi), [], []⟩ := by
 refine pure_call mix Tryz.func138 fits138 rfl ?_
 conv => whnf
 refine ⟨?_, [], ?_⟩
 ·exact g0
 conv => whnf
 refine ⟨rfl, ?_, trivial, trivial⟩
 all_goals repeat' (first | exact True.intro | refine leF_cons rfl ?_ ?_ | refine leS_cons rfl ?_ ?_ | (show PLe _ _ _ _; conv => whnf) | (show SLe _ _ _ _; conv => whnf) | (show PLeL _ _ _ _; conv => whnf) | apply And.intro | rfl | exact Nat.le_refl _ | exact fun _ _ => rfl | exact rowEq0 _ _)
 unfold clampF
 repeat' split
 all_goals omega
theorem rowL4 (a b c d : Int) : RowEq 4 (fun i => [[PV.int .i64 a], [PV.int .i64 b], [PV.int .i64 c], [PV.int .i64 d]].getD i []) (fl eInt [a, b, c, d]) := fun i hi => by
 match i, hi with
 | 0, _ => rfl
 | 1, _ => rfl
 | 2, _ => rfl
 | 3, _ => rfl
theorem call71 (τ : Nat) (l : List Cd) (day level before lo hi wanted : Int) (hl : limC l = 0) (hd : wi day 364 = true) (hv : wi level 16777216 = true) (h1 : wi before 1073741824 = true) (h2 : wi lo 1073741824 = true) (h3 : wi hi 1073741824 = true) (h4 : wi wanted 1073741824 = true) (h5 : lo ≤ hi) :
  PureCall Tryz.prog 71 [.sl τ 7 l.length (fl eCd l), .int .i64 day, .int .i64 level, .int .i64 before, .agg [.int .i64 lo, .int .i64 hi], .int .i64 wanted] [] ⟨.int .i64 0, [], []⟩ := by
 refine pure_call mix Tryz.func71 fits71 rfl ?_
 conv => whnf
 have hall : ∀ x ∈ [before, wanted, lo, hi], wi x 1073741824 = true := fun x hx => by
  simp only [List.mem_cons, List.not_mem_nil, or_false] at hx
  rcases hx with rfl | rfl | rfl | rfl <;> assumption
 refine ⟨_, fun _ => PureCall.arg_le (call73 (lendT τ) 2 l day level [before, wanted, lo, hi] (by simp) hl hd hv hall) rfl ?_, ?_⟩
 ·have hr := rowL4 before wanted lo hi
  exact ent
 conv => whnf
 refine ⟨?_, fun hc => absurd hc (by decide), fun _ => ?_⟩
 ·exact g0
 conv => whnf
 refine ⟨?_, fun hc => ?_, fun _ => ?_⟩
 ·exact g0
 ·simp only [bp] at hc; omega
 conv => whnf
 refine ⟨?_, [], ?_⟩
 ·exact g0
 conv => whnf
 refine ⟨rfl, ?_, trivial, trivial⟩
 all_goals repeat' (first | exact True.intro | refine leF_cons rfl ?_ ?_ | refine leS_cons rfl ?_ ?_ | (show PLe _ _ _ _; conv => whnf) | (show SLe _ _ _ _; conv => whnf) | (show PLeL _ _ _ _; conv => whnf) | apply And.intro | rfl | exact Nat.le_refl _ | exact fun _ _ => rfl | exact rowEq0 _ _)
end Pv
end Go.Proofs.YtdcgnfkkklbckaaGreatDoor
/- THE WALKS: made conditions. -/
set_option linter.unusedSimpArgs false
set_option linter.unusedVariables false
namespace Go.Proofs.YtdcgnfkkklbckaaGreatDoor
namespace Pv
def c102 : C := (.seq (.reg [⟨some 2, 32, none, .al [(.int .i64 0), (.int .i64 0)]⟩])
 (.seq (.seq (.reg [⟨some 3, 48, none, .mv (.t 0)⟩,⟨some 4, 64, none, .call (.c (.fn (.func 12) [] [])) [(.t 3), (.c (.int .i64 4))]⟩])
 (.block 0 (.seq (.reg [⟨some 6, 96, none, .bi false .eql (.t 4) (.c (.int .i64 0))⟩,⟨some 5, 80, none, .mv (.t 6)⟩])
 (.cond (.t 5) (.seq (.reg [⟨some 7, 112, none, .bd [(.int .i64 0), (.int .i64 0)] [(1, 1, (.c (.int .i64 364)))]⟩,⟨none, 0, none, .st 2 (.t 2) (.t 7)⟩])
 .ret) (.seq (.reg [⟨some 9, 144, none, .bi false .eql (.t 4) (.c (.int .i64 1))⟩,⟨some 8, 128, none, .mv (.t 9)⟩])
 (.cond (.t 8) (.seq (.reg [⟨some 10, 160, none, .mv (.t 0)⟩,⟨some 11, 176, none, .call (.c (.fn (.func 12) [] [])) [(.t 10), (.c (.int .i64 10))]⟩,⟨some 12, 192, none, .mv (.t 0)⟩,⟨some 13, 208, none, .call (.c (.fn (.func 12) [] [])) [(.t 12), (.c (.int .i64 10))]⟩,⟨some 14, 224, none, .bd [(.int .i64 0), (.int .i64 0)] [(0, 1, (.t 11)), (1, 1, (.t 13))]⟩,⟨none, 0, none, .st 2 (.t 2) (.t 14)⟩])
 .ret) .skip))))))
 (.seq (.reg [⟨some 15, 240, none, .mv (.t 0)⟩,⟨some 16, 256, none, .call (.c (.fn (.func 12) [] [])) [(.t 15), (.c (.int .i64 365))]⟩,⟨some 17, 272, none, .mv (.t 0)⟩,⟨some 18, 288, none, .call (.c (.fn (.func 12) [] [])) [(.t 17), (.c (.int .i64 365))]⟩,⟨some 19, 304, none, .bd [(.int .i64 0), (.int .i64 0)] [(0, 1, (.t 16)), (1, 1, (.t 18))]⟩,⟨none, 0, none, .st 2 (.t 2) (.t 19)⟩])
 .ret)))
theorem fits102 : fits Tryz.prog false Tryz.f102 1 20 [(2, some (2, true))] = some c102.er := by kernel_rfl
def c61 : C := (.seq (.reg [⟨some 2, 32, none, .al [(.int .i64 0), (.int .i64 0), (.int .i64 0), (.int .i64 0), (.int .i64 0), (.int .i64 0), (.int .i64 0)]⟩])
 (.seq (.reg [⟨some 4, 64, none, .mv (.t 0)⟩,⟨some 5, 80, none, .call (.c (.fn (.func 12) [] [])) [(.t 4), (.c (.int .i64 4))]⟩,⟨some 6, 96, none, .bi false .add (.c (.int .i64 1)) (.t 5)⟩,⟨some 7, 112, none, .mv (.t 0)⟩,⟨some 8, 128, none, .call (.c (.fn (.func 12) [] [])) [(.t 7), (.c (.int .i64 4))]⟩,⟨some 9, 144, none, .bi false .add (.c (.int .i64 1)) (.t 8)⟩,⟨some 10, 160, none, .mv (.t 0)⟩,⟨some 11, 176, none, .call (.c (.fn (.func 12) [] [])) [(.t 10), (.c (.int .i64 30))]⟩,⟨some 12, 192, none, .mv (.t 0)⟩,⟨some 13, 208, none, .call (.c (.fn (.func 102) [] [])) [(.t 12)]⟩,⟨some 14, 224, none, .bd [(.int .i64 0), (.int .i64 0), (.int .i64 0), (.int .i64 0), (.int .i64 0), (.int .i64 0), (.int .i64 0)] [(0, 1, (.t 6)), (1, 1, (.t 9)), (2, 1, (.t 11)), (3, 2, (.t 13)), (6, 1, (.c (.int .i64 16777216)))]⟩,⟨some 3, 48, none, .al [(.int .i64 0), (.int .i64 0), (.int .i64 0), (.int .i64 0), (.int .i64 0), (.int .i64 0), (.int .i64 0)]⟩,⟨none, 0, none, .st 7 (.t 3) (.t 14)⟩])
 (.seq (.seq (.reg [⟨some 15, 240, none, .mv (.t 0)⟩,⟨some 16, 256, none, .call (.c (.fn (.func 12) [] [])) [(.t 15), (.c (.int .i64 3))]⟩,⟨some 17, 272, none, .bi false .eql (.t 16) (.c (.int .i64 0))⟩])
 (.cond (.t 17) (.seq (.reg [⟨some 18, 288, none, .mv (.t 0)⟩,⟨some 19, 304, none, .call (.c (.fn (.func 12) [] [])) [(.t 18), (.c (.int .i64 60))]⟩,⟨some 20, 320, none, .bi false .add (.c (.int .i64 90)) (.t 19)⟩,⟨some 21, 336, none, .fa 5 (.t 3)⟩,⟨none, 0, none, .st 1 (.t 21) (.t 20)⟩])
 (.drw [⟨some 22, 352, none, .fa 5 (.t 3)⟩,⟨some 23, 368, none, .ld 1 false (.t 22)⟩,⟨some 24, 384, none, .mv (.t 0)⟩,⟨some 25, 400, none, .call (.c (.fn (.func 12) [] [])) [(.t 24), (.c (.int .i64 80))]⟩,⟨some 26, 416, none, .bi false .add (.t 23) (.t 25)⟩,⟨some 27, 432, none, .fa 6 (.t 3)⟩,⟨none, 0, none, .st 1 (.t 27) (.t 26)⟩]
  [(0, 2, 22), (0, 3, 22), (1, 2, 23), (1, 3, 23)])) .skip))
 (.seq (.reg [⟨some 28, 448, none, .ld 7 true (.t 3)⟩,⟨none, 0, none, .st 7 (.t 2) (.t 28)⟩])
 .ret))))
theorem fits61 : fits Tryz.prog false Tryz.f61 1 29 [(2, some (7, true))] = some c61.er := by kernel_rfl
def c17L1 : C := (.seq (.seq (.reg [⟨some 7, 112, none, .mv (.t 4)⟩,⟨some 8, 128, none, .bi false .gtr (.t 7) (.c (.int .i64 0))⟩])
 (.cond (.t 8) .skip (.exit 0)))
 (.seq (.block 1 (.reg [⟨some 11, 176, none, .mv (.t 3)⟩,⟨some 12, 192, none, .mv (.t 0)⟩,⟨some 13, 208, none, .call (.c (.fn (.func 61) [] [])) [(.t 12)]⟩,⟨some 14, 224, none, .bs 89 7 [(.t 13)]⟩,⟨some 15, 240, none, .app 89 7 56 (.t 11) (.t 14)⟩,⟨some 3, 48, none, .mv (.t 15)⟩]))
 (.reg [⟨some 9, 144, none, .mv (.t 4)⟩,⟨some 10, 160, none, .bi false .sub (.t 9) (.c (.int .i64 1))⟩,⟨some 4, 64, none, .mv (.t 10)⟩])))
def c17 : C := (.seq (.reg [⟨some 2, 32, none, .mv (.c (.nil 7))⟩])
 (.seq (.reg [⟨some 3, 48, none, .mv (.c (.nil 7))⟩])
 (.seq (.seq (.reg [⟨some 5, 80, none, .mv (.t 0)⟩,⟨some 6, 96, none, .call (.c (.fn (.func 12) [] [])) [(.t 5), (.c (.int .i64 7))]⟩,⟨some 4, 64, none, .mv (.t 6)⟩])
 (.block 0 (.loop c17L1)))
 (.seq (.reg [⟨some 16, 256, none, .mv (.t 3)⟩,⟨some 2, 32, none, .mv (.t 16)⟩])
 .ret))))
theorem fits17 : fits Tryz.prog false Tryz.f17 1 17 [(2, none)] = some c17.er := by kernel_rfl
def spanF (d : Dk) : (Int × Int) × Dk :=
 let e := nxtD d 4
 if nxt d 4 = 0 then ((0, 364), e) else if nxt d 4 = 1 then ((nxt e 10, nxt (nxtD e 10) 10), nxtD (nxtD e 10) 10) else ((nxt e 365, nxt (nxtD e 365) 365), nxtD (nxtD e 365) 365)
def condF (d : Dk) : Cd × Dk :=
 let d1 := nxtD d 4
 let d2 := nxtD d1 4
 let d3 := nxtD d2 30
 let s := spanF d3
 let d5 := nxtD s.2 3
 if nxt s.2 3 = 0 then (⟨1 + nxt d 4, 1 + nxt d1 4, nxt d2 30, s.1.1, s.1.2, 90 + nxt d5 60, 90 + nxt d5 60 + nxt (nxtD d5 60) 80⟩, nxtD (nxtD d5 60) 80)
 else (⟨1 + nxt d 4, 1 + nxt d1 4, nxt d2 30, s.1.1, s.1.2, 0, 16777216⟩, d5)
def condN (s : List Cd × Dk) : List Cd × Dk := (s.1 ++ [(condF s.2).1], (condF s.2).2)
def condsF (d : Dk) : List Cd × Dk := it condN (nxt d 7).toNat ([], nxtD d 7)
theorem spanF_ok (d : Dk) : (0 ≤ (spanF d).1.1 ∧ (spanF d).1.1 ≤ 364 ∧ 0 ≤ (spanF d).1.2 ∧ (spanF d).1.2 ≤ 364) ∧ (spanF d).2.at_ ≤ d.at_ + 3 := by
 unfold spanF
 dsimp only
 have a0 := nxtD_at d 4
 generalize nxtD d 4 = e at a0 ⊢
 split
 ·dsimp only; omega
 split
 ·have r1 := nxt_lt e (n := 10) (by omega)
  have a1 := nxtD_at e 10
  generalize nxtD e 10 = e1 at a1 ⊢
  have r2 := nxt_lt e1 (n := 10) (by omega)
  have a2 := nxtD_at e1 10
  dsimp only; omega
 ·have r1 := nxt_lt e (n := 365) (by omega)
  have a1 := nxtD_at e 365
  generalize nxtD e 365 = e1 at a1 ⊢
  have r2 := nxt_lt e1 (n := 365) (by omega)
  have a2 := nxtD_at e1 365
  dsimp only; omega
structure CondOK (c : Cd) : Prop where
 r : 1 ≤ c.r ∧ c.r ≤ 4
 k : 1 ≤ c.k ∧ c.k ≤ 4
 v : 0 ≤ c.v ∧ c.v ≤ 29
 f : 0 ≤ c.f ∧ c.f ≤ 364
 u : 0 ≤ c.u ∧ c.u ≤ 364
 a : 0 ≤ c.a ∧ c.a ≤ 149
 ab : c.a ≤ c.b
 b : c.b ≤ 16777216
theorem condF_ok (d : Dk) : CondOK (condF d).1 ∧ (condF d).2.at_ ≤ d.at_ + 9 := by
 unfold condF
 dsimp only
 have r0 := nxt_lt d (n := 4) (by omega)
 have a0 := nxtD_at d 4
 generalize nxtD d 4 = d1 at a0 ⊢
 have r1 := nxt_lt d1 (n := 4) (by omega)
 have a1 := nxtD_at d1 4
 generalize nxtD d1 4 = d2 at a1 ⊢
 have r2 := nxt_lt d2 (n := 30) (by omega)
 have a2 := nxtD_at d2 30
 generalize nxtD d2 30 = d3 at a2 ⊢
 obtain ⟨⟨s1, s2, s3, s4⟩, s5⟩ := spanF_ok d3
 generalize spanF d3 = S at s1 s2 s3 s4 s5 ⊢
 have a3 := nxtD_at S.2 3
 generalize nxtD S.2 3 = d5 at a3 ⊢
 split
 ·have r4 := nxt_lt d5 (n := 60) (by omega)
  have a4 := nxtD_at d5 60
  generalize nxtD d5 60 = d6 at a4 ⊢
  have r5 := nxt_lt d6 (n := 80) (by omega)
  have a5 := nxtD_at d6 80
  refine ⟨⟨?_, ?_, ?_, ?_, ?_, ?_, ?_, ?_⟩, ?_⟩ <;> dsimp only <;> omega
 ·refine ⟨⟨?_, ?_, ?_, ?_, ?_, ?_, ?_, ?_⟩, ?_⟩ <;> dsimp only <;> omega
theorem getD_pushC {α : Type} [Inhabited α] {P : α → Prop} {l : List α} {x : α} (h : ∀ i, i < l.length → P (l.getD i default)) (hx : P x) : ∀ i, i < (l ++ [x]).length → P ((l ++ [x]).getD i default) := fun i hi => by
 rw [List.length_append, List.length_cons, List.length_nil] at hi
 by_cases hi2 : i < l.length
 ·have := h i hi2
  rw [List.getD_eq_getElem?_getD] at this ⊢
  rw [List.getElem?_append_left hi2]; exact this
 ·have hi3 : i = l.length := by omega
  subst hi3
  rw [List.getD_eq_getElem?_getD, List.getElem?_append_right (Nat.le_refl _), Nat.sub_self]
  exact hx
theorem condI_ok : ∀ (n : Nat) (s : List Cd × Dk), (∀ i, i < s.1.length → CondOK (s.1.getD i default)) →
  (it condN n s).1.length = s.1.length + n ∧ (∀ i, i < (it condN n s).1.length → CondOK ((it condN n s).1.getD i default)) ∧ (it condN n s).2.at_ ≤ s.2.at_ + 9 * n
 | 0, s, h => ⟨rfl, h, Nat.le_refl _⟩
 | n + 1, s, h => by
   have h1 := condF_ok s.2
   have ih := condI_ok n (condN s) (getD_pushC h h1.1)
   have e1 : (condN s).1.length = s.1.length + 1 := by simp [condN]
   have e2 : (condN s).2 = (condF s.2).2 := rfl
   unfold it
   rw [e1, e2] at ih
   exact ⟨by omega, ih.2.1, by omega⟩
theorem condsF_ok (d : Dk) : (condsF d).1.length ≤ 6 ∧ (∀ i, i < (condsF d).1.length → CondOK ((condsF d).1.getD i default)) ∧ (condsF d).2.at_ ≤ d.at_ + 55 := by
 have r1 := nxt_lt d (n := 7) (by omega)
 have a1 := nxtD_at d 7
 have h := condI_ok (nxt d 7).toNat ([], nxtD d 7) (fun i hi => absurd hi (Nat.not_lt_zero _))
 unfold condsF
 simp only [List.length_nil] at h
 generalize it condN (nxt d 7).toNat ([], nxtD d 7) = W at h ⊢
 exact ⟨by omega, h.2.1, by omega⟩
set_option maxRecDepth 100000 in
set_option maxHeartbeats 8000000 in
theorem call102 (d : Dk) (hd : d.at_ ≤ 990000000) : PureCall Tryz.prog 102 [.pt 0 0 0] [.box (eDk 1 d)] ⟨.agg [.int .i64 (spanF d).1.1, .int .i64 (spanF d).1.2], [.box (eDk 1 (spanF d).2)], []⟩ := by
 refine pure_call mix Tryz.func102 fits102 rfl ?_
 conv => whnf
 refine ⟨_, fun _ => call_next 1 d 4 (by omega) (by omega), ?_⟩
 unfold spanF
 dsimp only
 have a0 := nxtD_at d 4
 generalize nxt d 4 = k
 generalize nxtD d 4 = e at a0 ⊢
 conv => whnf
 refine ⟨?_, fun hc => ?_, fun hc => ?_⟩
 ·exact g0
 ·have hk : k = 0 := beq_iff_eq.1 hc
  subst hk
  rw [if_pos rfl]
  conv => whnf
  refine ⟨?_, [], ?_⟩
  ·exact g0
  conv => whnf
  refine ⟨rfl, ?_, ?_, trivial⟩
  all_goals repeat' (first | exact True.intro | refine leF_cons rfl ?_ ?_ | refine leS_cons rfl ?_ ?_ | (show PLe _ _ _ _; conv => whnf) | (show SLe _ _ _ _; conv => whnf) | (show PLeL _ _ _ _; conv => whnf) | apply And.intro | rfl | exact Nat.le_refl _ | exact fun _ _ => rfl | exact rowEq0 _ _)
 have hk : ¬ k = 0 := beq_eq_false_iff_ne.1 hc
 rw [if_neg hk]
 conv => whnf
 refine ⟨trivial, fun hc2 => ?_, fun hc2 => ?_⟩
 ·have hk2 : k = 1 := beq_iff_eq.1 hc2
  rw [if_pos hk2]
  conv => whnf
  refine ⟨_, fun _ => call_next 1 e 10 (by omega) (by omega), ?_⟩
  have a1 := nxtD_at e 10
  generalize nxtD e 10 = e1 at a1 ⊢
  conv => whnf
  refine ⟨_, fun _ => call_next 1 e1 10 (by omega) (by omega), ?_⟩
  conv => whnf
  refine ⟨?_, [], ?_⟩
  ·exact g0
  conv => whnf
  refine ⟨rfl, ?_, ?_, trivial⟩
  all_goals repeat' (first | exact True.intro | refine leF_cons rfl ?_ ?_ | refine leS_cons rfl ?_ ?_ | (show PLe _ _ _ _; conv => whnf) | (show SLe _ _ _ _; conv => whnf) | (show PLeL _ _ _ _; conv => whnf) | apply And.intro | rfl | exact Nat.le_refl _ | exact fun _ _ => rfl | exact rowEq0 _ _)
 ·have hk2 : ¬ k = 1 := beq_eq_false_iff_ne.1 hc2
  rw [if_neg hk2]
  conv => whnf
  refine ⟨_, fun _ => call_next 1 e 365 (by omega) (by omega), ?_⟩
  have a1 := nxtD_at e 365
  generalize nxtD e 365 = e1 at a1 ⊢
  conv => whnf
  refine ⟨_, fun _ => call_next 1 e1 365 (by omega) (by omega), ?_⟩
  conv => whnf
  refine ⟨?_, [], ?_⟩
  ·exact g0
  conv => whnf
  refine ⟨rfl, ?_, ?_, trivial⟩
  all_goals repeat' (first | exact True.intro | refine leF_cons rfl ?_ ?_ | refine leS_cons rfl ?_ ?_ | (show PLe _ _ _ _; conv => whnf) | (show SLe _ _ _ _; conv => whnf) | (show PLeL _ _ _ _; conv => whnf) | apply And.intro | rfl | exact Nat.le_refl _ | exact fun _ _ => rfl | exact rowEq0 _ _)
set_option maxRecDepth 100000 in
set_option maxHeartbeats 8000000 in
theorem call61 (d : Dk) (hd : d.at_ ≤ 980000000) : PureCall Tryz.prog 61 [.pt 0 0 0] [.box (eDk 1 d)] ⟨.agg (eCd (condF d).1), [.box (eDk 1 (condF d).2)], []⟩ := by
 refine pure_call mix Tryz.func61 fits61 rfl ?_
 unfold condF
 dsimp only
 conv => whnf
 refine ⟨_, fun _ => call_next 1 d 4 (by omega) (by omega), ?_⟩
 have r0 := nxt_lt d (n := 4) (by omega)
 have a0 := nxtD_at d 4
 generalize nxt d 4 = n0 at r0 ⊢
 generalize nxtD d 4 = d1 at a0 ⊢
 conv => whnf
 refine ⟨_, fun _ => call_next 1 d1 4 (by omega) (by omega), ?_⟩
 have r1 := nxt_lt d1 (n := 4) (by omega)
 have a1 := nxtD_at d1 4
 generalize nxt d1 4 = n1 at r1 ⊢
 generalize nxtD d1 4 = d2 at a1 ⊢
 conv => whnf
 refine ⟨_, fun _ => call_next 1 d2 30 (by omega) (by omega), ?_⟩
 have r2 := nxt_lt d2 (n := 30) (by omega)
 have a2 := nxtD_at d2 30
 generalize nxt d2 30 = n2 at r2 ⊢
 generalize nxtD d2 30 = d3 at a2 ⊢
 conv => whnf
 refine ⟨_, fun _ => call102 d3 (by omega), ?_⟩
 have s5 := (spanF_ok d3).2
 generalize spanF d3 = S at s5 ⊢
 obtain ⟨⟨f, u⟩, d4⟩ := S
 dsimp only at s5 ⊢
 conv => whnf
 refine ⟨_, fun _ => call_next 1 d4 3 (by omega) (by omega), ?_⟩
 have a3 := nxtD_at d4 3
 generalize nxt d4 3 = n3
 generalize nxtD d4 3 = d5 at a3 ⊢
 conv => whnf
 refine ⟨?_, fun hc => ?_, fun hc => ?_⟩
 ·exact g0
 ·have hk : n3 = 0 := beq_iff_eq.1 hc
  rw [if_pos hk]
  conv => whnf
  refine ⟨_, fun _ => call_next 1 d5 60 (by omega) (by omega), ?_⟩
  have r4 := nxt_lt d5 (n := 60) (by omega)
  have a4 := nxtD_at d5 60
  generalize nxt d5 60 = n4 at r4 ⊢
  generalize nxtD d5 60 = d6 at a4 ⊢
  conv => whnf
  refine ⟨_, fun _ => call_next 1 d6 80 (by omega) (by omega), ?_⟩
  have r5 := nxt_lt d6 (n := 80) (by omega)
  generalize nxt d6 80 = n5 at r5 ⊢
  generalize nxtD d6 80 = d7
  conv => whnf
  refine ⟨rfl, ?_⟩
  conv => whnf
  refine ⟨?_, [], ?_⟩
  ·exact g0
  conv => whnf
  refine ⟨rfl, ?_, ?_, trivial⟩
  all_goals repeat' (first | exact True.intro | refine leF_cons rfl ?_ ?_ | refine leS_cons rfl ?_ ?_ | (show PLe _ _ _ _; conv => whnf) | (show SLe _ _ _ _; conv => whnf) | (show PLeL _ _ _ _; conv => whnf) | apply And.intro | rfl | exact Nat.le_refl _ | exact fun _ _ => rfl | exact rowEq0 _ _)
 ·have hk : ¬ n3 = 0 := beq_eq_false_iff_ne.1 hc
  rw [if_neg hk]
  conv => whnf
  refine ⟨?_, [], ?_⟩
  ·exact g0
  conv => whnf
  refine ⟨rfl, ?_, ?_, trivial⟩
  all_goals repeat' (first | exact True.intro | refine leF_cons rfl ?_ ?_ | refine leS_cons rfl ?_ ?_ | (show PLe _ _ _ _; conv => whnf) | (show SLe _ _ _ _; conv => whnf) | (show PLeL _ _ _ _; conv => whnf) | apply And.intro | rfl | exact Nat.le_refl _ | exact fun _ _ => rfl | exact rowEq0 _ _)
set_option maxRecDepth 100000 in
set_option maxHeartbeats 8000000 in
theorem call17 (d : Dk) (hd : d.at_ ≤ 970000000) : PureCall Tryz.prog 17 [.pt 0 0 0] [.box (eDk 1 d)] ⟨.sl 0 7 (condsF d).1.length (fl eCd (condsF d).1), [.box (eDk 1 (condsF d).2)], []⟩ := by
 refine pure_call mix Tryz.func17 fits17 rfl ?_
 conv => whnf
 refine ⟨_, fun _ => call_next 1 d 7 (by omega) (by omega), ?_⟩
 have r0 := nxt_lt d (n := 7) (by omega)
 have a0 := nxtD_at d 7
 unfold condsF
 obtain ⟨m0, hm0⟩ : ∃ m : Nat, (m : Int) = nxt d 7 := ⟨(nxt d 7).toNat, by omega⟩
 rw [← hm0] at r0 ⊢
 rw [Int.toNat_natCast]
 generalize nxtD d 7 = d0 at a0 ⊢
 conv => whnf
 refine ⟨?_, ?_⟩
 ·exact g0
 refine LSem.adopt 3 1000000 89 7 7 rfl rfl ?_
 refine LSem.loop (n := 17) mix (α := Nat × List Cd × Dk) (fun s => s.1 + s.2.1.length = m0 ∧ it condN s.1 s.2 = it condN m0 ([], d0) ∧ s.2.2.at_ ≤ 970000001 + 9 * s.2.1.length)
  (fun s => [(0, .pt 0 0 0), (3, .os 1000000), (4, .int .i64 s.1)])
  (fun s => [(0, .box (eDk 1 s.2.2)), (1000000, .row 0 89 7 s.2.1.length (fl eCd s.2.1))]) (fun s => s.1) (m0, [], d0) ?_ ?_ ?_
 ·exact ⟨rfl, rfl, by dsimp only; omega⟩
 ·refine ⟨rfl, rfl, ?_, ?_⟩
  all_goals repeat' (first | exact True.intro | refine leF_cons rfl ?_ ?_ | refine leS_cons rfl ?_ ?_ | (show PLe _ _ _ _; conv => whnf) | (show SLe _ _ _ _; conv => whnf) | (show PLeL _ _ _ _; conv => whnf) | apply And.intro | rfl | exact Nat.le_refl _ | exact fun _ _ => rfl | exact rowEq0 _ _)
 ·intro s hs
  obtain ⟨m, l, e⟩ := s
  obtain ⟨k1, k2, k3⟩ := hs
  dsimp only at k1 k2 k3
  conv => whnf
  refine ⟨trivial, fun hc => ?_, fun hc => ?_⟩
  ·replace hc := of_decide_eq_true hc
   obtain ⟨m, rfl⟩ : ∃ m', m = m' + 1 := ⟨m - 1, by
    have h : (0 : Int) < m := hc
    omega⟩
   have hvs := condF_ok e
   have hst : it condN m (l ++ [(condF e).1], (condF e).2) = it condN m0 ([], d0) := k2
   have q := fl_push eCd l (condF e).1
   have hxl : (l ++ [(condF e).1]).length = l.length + 1 := by simp
   conv => whnf
   refine ⟨_, fun _ => call61 e (by omega), ?_⟩
   generalize condF e = W at hvs hst q hxl ⊢
   conv => whnf
   refine ⟨?_, (m, l ++ [W.1], W.2), ⟨?_, hst, ?_⟩, ?_, rfl, rfl, ?_, ?_⟩
   ·exact g0
   ·dsimp only; rw [hxl]; omega
   ·dsimp only; rw [hxl]; omega
   ·dsimp only; omega
   all_goals repeat' (first | exact True.intro | refine leF_cons rfl ?_ ?_ | refine leS_cons rfl ?_ ?_ | (show PLe _ _ _ _; conv => whnf) | (show SLe _ _ _ _; conv => whnf) | (show PLeL _ _ _ _; conv => whnf) | apply And.intro | rfl | exact Nat.le_refl _ | exact fun _ _ => rfl | exact rowEq0 _ _)
   all_goals first | exact q | (dsimp only; rw [hxl]; rfl) | (dsimp only; rw [hxl]; done) | (dsimp only; omega) | omega | skip
  ·replace hc := of_decide_eq_false hc
   have h0 : m = 0 := by
    have h : ¬ (0 : Int) < m := hc
    omega
   subst h0
   have hp : (l, e) = it condN m0 ([], d0) := k2
   rw [← hp]
   conv => whnf
   refine ⟨?_, [], ?_⟩
   ·exact g0
   conv => whnf
   refine ⟨rfl, ?_, ?_, trivial⟩
   all_goals repeat' (first | exact True.intro | refine leF_cons rfl ?_ ?_ | refine leS_cons rfl ?_ ?_ | (show PLe _ _ _ _; conv => whnf) | (show SLe _ _ _ _; conv => whnf) | (show PLeL _ _ _ _; conv => whnf) | apply And.intro | rfl | exact Nat.le_refl _ | exact fun _ _ => rfl | exact rowEq0 _ _)
end Pv
end Go.Proofs.YtdcgnfkkklbckaaGreatDoor
/- TOP, THE WALKS: rights that are made; ramps. -/
set_option linter.unusedSimpArgs false
set_option linter.unusedVariables false
namespace Go.Proofs.YtdcgnfkkklbckaaGreatDoor
namespace Pv
def c44L1 : C := (.seq (.seq (.reg [⟨some 7, 112, none, .mv (.t 4)⟩,⟨some 8, 128, none, .bi false .gtr (.t 7) (.c (.int .i64 0))⟩])
 (.cond (.t 8) .skip (.exit 0)))
 (.seq (.block 1 (.reg [⟨some 11, 176, none, .mv (.t 3)⟩,⟨some 12, 192, none, .mv (.t 0)⟩,⟨some 13, 208, none, .call (.c (.fn (.func 12) [] [])) [(.t 12), (.c (.int .i64 4))]⟩,⟨some 14, 224, none, .bi false .mul (.t 13) (.c (.int .i64 100))⟩,⟨some 15, 240, none, .mv (.t 0)⟩,⟨some 16, 256, none, .call (.c (.fn (.func 12) [] [])) [(.t 15), (.c (.int .i64 12))]⟩,⟨some 17, 272, none, .mv (.t 0)⟩,⟨some 18, 288, none, .call (.c (.fn (.func 102) [] [])) [(.t 17)]⟩,⟨some 19, 304, none, .bd [(.int .i64 0), (.int .i64 0), (.int .i64 0), (.int .i64 0)] [(0, 1, (.t 14)), (1, 1, (.t 16)), (2, 2, (.t 18))]⟩,⟨some 20, 320, none, .bs 134 4 [(.t 19)]⟩,⟨some 21, 336, none, .app 134 4 32 (.t 11) (.t 20)⟩,⟨some 3, 48, none, .mv (.t 21)⟩]))
 (.reg [⟨some 9, 144, none, .mv (.t 4)⟩,⟨some 10, 160, none, .bi false .sub (.t 9) (.c (.int .i64 1))⟩,⟨some 4, 64, none, .mv (.t 10)⟩])))
def c44 : C := (.seq (.reg [⟨some 2, 32, none, .mv (.c (.nil 4))⟩])
 (.seq (.reg [⟨some 3, 48, none, .mv (.c (.nil 4))⟩])
 (.seq (.seq (.reg [⟨some 5, 80, none, .mv (.t 0)⟩,⟨some 6, 96, none, .call (.c (.fn (.func 12) [] [])) [(.t 5), (.c (.int .i64 7))]⟩,⟨some 4, 64, none, .mv (.t 6)⟩])
 (.block 0 (.loop c44L1)))
 (.seq (.reg [⟨some 22, 352, none, .mv (.t 3)⟩,⟨some 2, 32, none, .mv (.t 22)⟩])
 .ret))))
theorem fits44 : fits Tryz.prog false Tryz.f44 1 23 [(2, none)] = some c44.er := by kernel_rfl
def c111 : C := (.seq (.reg [⟨some 2, 32, none, .mv (.c (.bool false))⟩])
 (.seq (.reg [⟨some 3, 48, none, .mv (.t 0)⟩,⟨some 4, 64, none, .call (.c (.fn (.func 54) [] [])) [(.t 3), (.c (.fn (.func 169) [] []))]⟩,⟨some 5, 80, none, .un false .not (.t 4)⟩,⟨some 2, 32, none, .mv (.t 5)⟩])
 .ret))
theorem fits111 : fits Tryz.prog false Tryz.f111 1 6 [(2, none)] = some c111.er := by kernel_rfl
def c112 : C := (.seq (.reg [⟨some 8, 128, none, .mv (.c (.int .i64 0))⟩])
 (.seq (.seq (.reg [⟨some 9, 144, none, .mv (.t 0)⟩,⟨some 10, 160, none, .mv (.t 1)⟩,⟨some 11, 176, none, .bi false .lss (.t 9) (.t 10)⟩])
 (.cond (.t 11) (.seq (.reg [⟨some 12, 192, none, .mv (.t 0)⟩,⟨some 13, 208, none, .mv (.t 2)⟩,⟨some 14, 224, none, .bi false .add (.t 12) (.t 13)⟩,⟨some 15, 240, none, .mv (.t 1)⟩,⟨some 16, 256, none, .mn [(.t 14), (.t 15)]⟩,⟨some 8, 128, none, .mv (.t 16)⟩])
 .ret) .skip))
 (.seq (.reg [⟨some 17, 272, none, .mv (.t 0)⟩,⟨some 18, 288, none, .mv (.t 3)⟩,⟨some 19, 304, none, .bi false .sub (.t 17) (.t 18)⟩,⟨some 20, 320, none, .mv (.t 1)⟩,⟨some 21, 336, none, .mx [(.t 19), (.t 20)]⟩,⟨some 8, 128, none, .mv (.t 21)⟩])
 .ret)))
theorem fits112 : fits Tryz.prog false Tryz.f112 4 22 [(8, none)] = some c112.er := by kernel_rfl
def c47 : C := (.seq (.reg [⟨some 8, 128, none, .al [(.int .i64 0), (.int .i64 0)]⟩,⟨some 9, 144, none, .mv (.c (.int .i64 0))⟩])
 (.seq (.block 0 (.seq (.reg [⟨some 11, 176, none, .mv (.t 0)⟩,⟨some 12, 192, none, .mv (.t 1)⟩,⟨some 13, 208, none, .mv (.t 2)⟩,⟨some 14, 224, none, .bs 3 1 [(.t 11), (.t 12), (.t 13)]⟩,⟨some 15, 240, none, .call (.c (.fn (.func 111) [] [])) [(.t 14)]⟩,⟨some 16, 256, none, .un false .not (.t 15)⟩,⟨some 10, 160, none, .mv (.t 16)⟩])
 (.cond (.t 10) (.seq (.reg [⟨some 17, 272, none, .bd [(.int .i64 0), (.int .i64 0)] []⟩,⟨none, 0, none, .st 2 (.t 8) (.t 17)⟩,⟨some 9, 144, none, .mv (.c (.int .i64 1))⟩])
 .ret) (.seq (.reg [⟨some 19, 304, none, .mv (.t 3)⟩,⟨some 20, 320, none, .call (.c (.fn (.func 56) [] [])) [(.t 19), (.c (.int .i64 4096))]⟩,⟨some 21, 336, none, .un false .not (.t 20)⟩,⟨some 18, 288, none, .mv (.t 21)⟩])
 (.cond (.t 18) (.seq (.reg [⟨some 22, 352, none, .bd [(.int .i64 0), (.int .i64 0)] []⟩,⟨none, 0, none, .st 2 (.t 8) (.t 22)⟩,⟨some 9, 144, none, .mv (.c (.int .i64 10))⟩])
 .ret) .skip)))))
 (.seq (.reg [⟨some 23, 368, none, .mv (.t 0)⟩,⟨some 24, 384, none, .mv (.t 2)⟩,⟨some 25, 400, none, .mv (.t 3)⟩,⟨some 26, 416, none, .bi false .mul (.t 24) (.t 25)⟩,⟨some 27, 432, none, .bi false .sub (.t 23) (.t 26)⟩,⟨some 28, 448, none, .mx [(.t 27), (.c (.int .i64 0))]⟩,⟨some 29, 464, none, .mv (.t 0)⟩,⟨some 30, 480, none, .mv (.t 1)⟩,⟨some 31, 496, none, .mv (.t 3)⟩,⟨some 32, 512, none, .bi false .mul (.t 30) (.t 31)⟩,⟨some 33, 528, none, .bi false .add (.t 29) (.t 32)⟩,⟨some 34, 544, none, .mn [(.t 33), (.c (.int .i64 1073741824))]⟩,⟨some 35, 560, none, .bd [(.int .i64 0), (.int .i64 0)] [(0, 1, (.t 28)), (1, 1, (.t 34))]⟩,⟨none, 0, none, .st 2 (.t 8) (.t 35)⟩,⟨some 9, 144, none, .mv (.c (.int .i64 0))⟩])
 .ret)))
theorem fits47 : fits Tryz.prog false Tryz.f47 4 36 [(8, some (2, true)), (9, none)] = some c47.er := by kernel_rfl
def c48L1 : C := (.seq (.reg [⟨some 27, 432, none, .bi false .lss (.t 26) (.t 25)⟩])
 (.seq (.cond (.t 27) .skip (.exit 1))
 (.seq (.block 2 (.seq (.reg [⟨some 28, 448, none, .mv (.t 0)⟩,⟨some 29, 464, none, .mv (.t 1)⟩,⟨some 30, 480, none, .mv (.t 2)⟩,⟨some 31, 496, none, .mv (.t 3)⟩,⟨some 32, 512, none, .call (.c (.fn (.func 112) [] [])) [(.t 28), (.t 29), (.t 30), (.t 31)]⟩,⟨some 0, 0, none, .mv (.t 32)⟩])
 (.reg [⟨some 33, 528, none, .mv (.t 12)⟩,⟨some 34, 544, none, .mv (.t 0)⟩,⟨some 35, 560, none, .bs 3 1 [(.t 34)]⟩,⟨some 36, 576, none, .app 3 1 8 (.t 33) (.t 35)⟩,⟨some 12, 192, none, .mv (.t 36)⟩])))
 (.reg [⟨some 37, 592, none, .bi false .add (.t 26) (.c (.int .i64 1))⟩,⟨some 26, 416, none, .mv (.t 37)⟩]))))
def c48 : C := (.seq (.reg [⟨some 10, 160, none, .mv (.c (.nil 1))⟩,⟨some 11, 176, none, .mv (.c (.int .i64 0))⟩])
 (.seq (.block 0 (.seq (.reg [⟨some 14, 224, none, .mv (.t 0)⟩,⟨some 15, 240, none, .mv (.t 1)⟩,⟨some 16, 256, none, .mv (.t 2)⟩,⟨some 17, 272, none, .mv (.t 3)⟩,⟨some 18, 288, none, .bs 3 1 [(.t 14), (.t 15), (.t 16), (.t 17)]⟩,⟨some 19, 304, none, .call (.c (.fn (.func 111) [] [])) [(.t 18)]⟩,⟨some 20, 320, none, .un false .not (.t 19)⟩,⟨some 13, 208, none, .mv (.t 20)⟩])
 (.cond (.t 13) (.seq (.reg [⟨some 10, 160, none, .mv (.c (.nil 1))⟩,⟨some 11, 176, none, .mv (.c (.int .i64 1))⟩])
 .ret) (.seq (.reg [⟨some 22, 352, none, .mv (.t 4)⟩,⟨some 23, 368, none, .call (.c (.fn (.func 56) [] [])) [(.t 22), (.c (.int .i64 4096))]⟩,⟨some 24, 384, none, .un false .not (.t 23)⟩,⟨some 21, 336, none, .mv (.t 24)⟩])
 (.cond (.t 21) (.seq (.reg [⟨some 10, 160, none, .mv (.c (.nil 1))⟩,⟨some 11, 176, none, .mv (.c (.int .i64 10))⟩])
 .ret) .skip)))))
 (.seq (.reg [⟨some 12, 192, none, .mv (.c (.nil 1))⟩])
 (.seq (.seq (.reg [⟨some 25, 400, none, .mv (.t 4)⟩,⟨some 26, 416, none, .mv (.c (.int .i64 0))⟩])
 (.block 1 (.loop c48L1)))
 (.seq (.reg [⟨some 38, 608, none, .mv (.t 12)⟩,⟨some 10, 160, none, .mv (.t 38)⟩,⟨some 11, 176, none, .mv (.c (.int .i64 0))⟩])
 .ret)))))
theorem fits48 : fits Tryz.prog false Tryz.f48 5 39 [(10, none), (11, none)] = some c48.er := by kernel_rfl
structure Rt where
 d : Int
 w : Int
 f : Int
 u : Int
 deriving DecidableEq
instance : Inhabited Rt := ⟨⟨0, 0, 0, 0⟩⟩
def eRt (r : Rt) : List PV := [.int .i64 r.d, .int .i64 r.w, .int .i64 r.f, .int .i64 r.u]
def rtF (d : Dk) : Rt × Dk := (⟨nxt d 4 * 100, nxt (nxtD d 4) 12, (spanF (nxtD (nxtD d 4) 12)).1.1, (spanF (nxtD (nxtD d 4) 12)).1.2⟩, (spanF (nxtD (nxtD d 4) 12)).2)
structure RtOK (r : Rt) : Prop where
 d : 0 ≤ r.d ∧ r.d ≤ 300
 w : 0 ≤ r.w ∧ r.w ≤ 11
 f : 0 ≤ r.f ∧ r.f ≤ 364
 u : 0 ≤ r.u ∧ r.u ≤ 364
theorem rtF_ok (d : Dk) : RtOK (rtF d).1 ∧ (rtF d).2.at_ ≤ d.at_ + 9 := by
 have r0 := nxt_lt d (n := 4) (by omega)
 have a0 := nxtD_at d 4
 have r1 := nxt_lt (nxtD d 4) (n := 12) (by omega)
 have a1 := nxtD_at (nxtD d 4) 12
 obtain ⟨⟨s1, s2, s3, s4⟩, s5⟩ := spanF_ok (nxtD (nxtD d 4) 12)
 unfold rtF
 refine ⟨⟨?_, ?_, ?_, ?_⟩, ?_⟩ <;> dsimp only <;> omega
def rtN (s : List Rt × Dk) : List Rt × Dk := (s.1 ++ [(rtF s.2).1], (rtF s.2).2)
def rtsF (d : Dk) : List Rt × Dk := it rtN (nxt d 7).toNat ([], nxtD d 7)
theorem rtI_ok : ∀ (n : Nat) (s : List Rt × Dk), (∀ i, i < s.1.length → RtOK (s.1.getD i default)) →
  (it rtN n s).1.length = s.1.length + n ∧ (∀ i, i < (it rtN n s).1.length → RtOK ((it rtN n s).1.getD i default)) ∧ (it rtN n s).2.at_ ≤ s.2.at_ + 9 * n
 | 0, s, h => ⟨rfl, h, Nat.le_refl _⟩
 | n + 1, s, h => by
   have h1 := rtF_ok s.2
   have ih := rtI_ok n (rtN s) (getD_pushC h h1.1)
   have e1 : (rtN s).1.length = s.1.length + 1 := by simp [rtN]
   have e2 : (rtN s).2 = (rtF s.2).2 := rfl
   unfold it
   rw [e1, e2] at ih
   exact ⟨by omega, ih.2.1, by omega⟩
theorem rtsF_ok (d : Dk) : (rtsF d).1.length ≤ 6 ∧ (∀ i, i < (rtsF d).1.length → RtOK ((rtsF d).1.getD i default)) ∧ (rtsF d).2.at_ ≤ d.at_ + 55 := by
 have r1 := nxt_lt d (n := 7) (by omega)
 have a1 := nxtD_at d 7
 have h := rtI_ok (nxt d 7).toNat ([], nxtD d 7) (fun i hi => absurd hi (Nat.not_lt_zero _))
 unfold rtsF
 simp only [List.length_nil, Nat.zero_add] at h
 exact ⟨by omega, h.2.1, by omega⟩
set_option maxRecDepth 100000 in
set_option maxHeartbeats 8000000 in
theorem call44 (d : Dk) (hd : d.at_ ≤ 970000000) : PureCall Tryz.prog 44 [.pt 0 0 0] [.box (eDk 1 d)] ⟨.sl 0 4 (rtsF d).1.length (fl eRt (rtsF d).1), [.box (eDk 1 (rtsF d).2)], []⟩ := by
 refine pure_call mix Tryz.func44 fits44 rfl ?_
 conv => whnf
 refine ⟨_, fun _ => call_next 1 d 7 (by omega) (by omega), ?_⟩
 have r0 := nxt_lt d (n := 7) (by omega)
 have a0 := nxtD_at d 7
 unfold rtsF
 obtain ⟨m0, hm0⟩ : ∃ m : Nat, (m : Int) = nxt d 7 := ⟨(nxt d 7).toNat, by omega⟩
 rw [← hm0] at r0 ⊢
 rw [Int.toNat_natCast]
 generalize nxtD d 7 = d0 at a0 ⊢
 conv => whnf
 refine ⟨?_, ?_⟩
 ·exact g0
 refine LSem.adopt 3 1000000 134 4 4 rfl rfl ?_
 refine LSem.loop (n := 23) mix (α := Nat × List Rt × Dk) (fun s => s.1 + s.2.1.length = m0 ∧ it rtN s.1 s.2 = it rtN m0 ([], d0) ∧ s.2.2.at_ ≤ 970000001 + 9 * s.2.1.length)
  (fun s => [(0, .pt 0 0 0), (3, .os 1000000), (4, .int .i64 s.1)])
  (fun s => [(0, .box (eDk 1 s.2.2)), (1000000, .row 0 134 4 s.2.1.length (fl eRt s.2.1))]) (fun s => s.1) (m0, [], d0) ?_ ?_ ?_
 ·exact ⟨rfl, rfl, by dsimp only; omega⟩
 ·refine ⟨rfl, rfl, ?_, ?_⟩
  all_goals repeat' (first | exact True.intro | refine leF_cons rfl ?_ ?_ | refine leS_cons rfl ?_ ?_ | (show PLe _ _ _ _; conv => whnf) | (show SLe _ _ _ _; conv => whnf) | (show PLeL _ _ _ _; conv => whnf) | apply And.intro | rfl | exact Nat.le_refl _ | exact fun _ _ => rfl | exact rowEq0 _ _)
 ·intro s hs
  obtain ⟨m, l, e⟩ := s
  obtain ⟨k1, k2, k3⟩ := hs
  dsimp only at k1 k2 k3
  conv => whnf
  refine ⟨trivial, fun hc => ?_, fun hc => ?_⟩
  ·replace hc := of_decide_eq_true hc
   obtain ⟨m, rfl⟩ : ∃ m', m = m' + 1 := ⟨m - 1, by
    have h : (0 : Int) < m := hc
    omega⟩
   have hvs := rtF_ok e
   have hst : it rtN m (l ++ [(rtF e).1], (rtF e).2) = it rtN m0 ([], d0) := k2
   have q := fl_push eRt l (rtF e).1
   have hxl : (l ++ [(rtF e).1]).length = l.length + 1 := by simp
   have b0 := nxt_lt e (n := 4) (by omega)
   have c0 := nxtD_at e 4
   have c1 := nxtD_at (nxtD e 4) 12
   conv => whnf
   refine ⟨_, fun _ => call_next 1 e 4 (by omega) (by decide), ?_⟩
   conv => whnf
   refine ⟨_, fun _ => call_next 1 (nxtD e 4) 12 (by omega) (by decide), ?_⟩
   conv => whnf
   refine ⟨_, fun _ => call102 (nxtD (nxtD e 4) 12) (by omega), ?_⟩
   conv => whnf
   refine ⟨?_, (m, l ++ [(rtF e).1], (rtF e).2), ⟨?_, hst, ?_⟩, ?_, rfl, rfl, ?_, ?_⟩
   ·exact g0
   ·dsimp only; rw [hxl]; omega
   ·dsimp only; rw [hxl]; omega
   ·dsimp only; omega
   all_goals repeat' (first | exact True.intro | refine leF_cons rfl ?_ ?_ | refine leS_cons rfl ?_ ?_ | (show PLe _ _ _ _; conv => whnf) | (show SLe _ _ _ _; conv => whnf) | (show PLeL _ _ _ _; conv => whnf) | apply And.intro | rfl | exact Nat.le_refl _ | exact fun _ _ => rfl | exact rowEq0 _ _)
   all_goals first | exact q | (dsimp only; rw [hxl]; rfl) | (dsimp only; rw [hxl]; done) | (dsimp only; omega) | omega | skip
  ·replace hc := of_decide_eq_false hc
   have h0 : m = 0 := by
    have h : ¬ (0 : Int) < m := hc
    omega
   subst h0
   have hp : (l, e) = it rtN m0 ([], d0) := k2
   rw [← hp]
   conv => whnf
   refine ⟨?_, [], ?_⟩
   ·exact g0
   conv => whnf
   refine ⟨rfl, ?_, ?_, trivial⟩
   all_goals repeat' (first | exact True.intro | refine leF_cons rfl ?_ ?_ | refine leS_cons rfl ?_ ?_ | (show PLe _ _ _ _; conv => whnf) | (show SLe _ _ _ _; conv => whnf) | (show PLeL _ _ _ _; conv => whnf) | apply And.intro | rfl | exact Nat.le_refl _ | exact fun _ _ => rfl | exact rowEq0 _ _)
end Pv
end Go.Proofs.YtdcgnfkkklbckaaGreatDoor
/- TOP, THE WALKS: ramps. -/
set_option linter.unusedSimpArgs false
set_option linter.unusedVariables false
namespace Go.Proofs.YtdcgnfkkklbckaaGreatDoor
namespace Pv
def c169 : C := (.seq (.reg [⟨some 2, 32, none, .mv (.c (.bool false))⟩])
 (.seq (.reg [⟨some 3, 48, none, .mv (.t 0)⟩,⟨some 4, 64, none, .call (.c (.fn (.func 56) [] [])) [(.t 3), (.c (.int .i64 1073741824))]⟩,⟨some 5, 80, none, .un false .not (.t 4)⟩,⟨some 2, 32, none, .mv (.t 5)⟩])
 .ret))
theorem fits169 : fits Tryz.prog false Tryz.f169 1 6 [(2, none)] = some c169.er := by kernel_rfl
theorem call169 (n : Int) : PureCall Tryz.prog 169 [.int .i64 n] [] ⟨.bool (!wi n 1073741824), [], []⟩ := by
 refine pure_call mix Tryz.func169 fits169 rfl ?_
 conv => whnf
 refine ⟨_, fun _ => call56 n 1073741824, ?_⟩
 conv => whnf
 refine ⟨?_, [], ?_⟩
 ·exact g0
 conv => whnf
 refine ⟨rfl, ?_, trivial, trivial⟩
 all_goals repeat' (first | exact True.intro | refine leF_cons rfl ?_ ?_ | refine leS_cons rfl ?_ ?_ | (show PLe _ _ _ _; conv => whnf) | (show SLe _ _ _ _; conv => whnf) | (show PLeL _ _ _ _; conv => whnf) | apply And.intro | rfl | exact Nat.le_refl _ | exact fun _ _ => rfl | exact rowEq0 _ _)
theorem call122g (ρ : Nat) (l : List Int) (hn : l.length ≤ 4611686018427387904) (hg : ∀ x ∈ l, wi x 1073741824 = true) :
  PureCall Tryz.prog 122 [.sl ρ 1 l.length (fl eInt l), .fn (.func 169) [] []] [] ⟨.int .i64 (-1), [], []⟩ := by
 refine pure_call mix Tryz.func122 fits122 rfl ?_
 conv => whnf
 refine ⟨trivial, ?_⟩
 refine LSem.loop (n := 19) mix (α := Nat) (fun i => i ≤ l.length)
  (fun i => [(0, .sl ρ 1 l.length (fl eInt l)), (1, .fn (.func 169) [] []), (7, .int .i64 l.length), (8, .int .i64 i)])
  (fun i => []) (fun i => l.length - i) 0 ?_ ?_ ?_
 ·exact Nat.zero_le _
 ·refine ⟨rfl, rfl, ?_, ?_⟩
  all_goals repeat' (first | exact True.intro | refine leF_cons rfl ?_ ?_ | refine leS_cons rfl ?_ ?_ | (show PLe _ _ _ _; conv => whnf) | (show SLe _ _ _ _; conv => whnf) | (show PLeL _ _ _ _; conv => whnf) | apply And.intro | rfl | exact Nat.le_refl _ | exact fun _ _ => rfl | exact rowEq0 _ _)
 ·intro i hi
  have hj : ((i : Int)).toNat = i := by omega
  conv => whnf
  refine ⟨trivial, fun hc => ?_, fun hc => ?_⟩
  ·replace hc := of_decide_eq_true hc
   have hlt : i < l.length := by omega
   have hm : l.getD i default ∈ l := by
    rw [List.getD_eq_getElem?_getD, List.getElem?_eq_getElem hlt]; exact List.getElem_mem hlt
   conv => whnf
   refine ⟨_, fun _ => call169 (l.getD ((i : Int)).toNat default), ?_⟩
   rw [hj, hg _ hm]
   conv => whnf
   refine ⟨?_, fun hc2 => (by cases hc2), fun hc2 => ?_⟩
   ·exact g0
   conv => whnf
   refine ⟨?_, i + 1, hlt, ?_, rfl, rfl, ?_, ?_⟩
   ·exact g0
   ·omega
   all_goals repeat' (first | exact True.intro | refine leF_cons rfl ?_ ?_ | refine leS_cons rfl ?_ ?_ | (show PLe _ _ _ _; conv => whnf) | (show SLe _ _ _ _; conv => whnf) | (show PLeL _ _ _ _; conv => whnf) | apply And.intro | rfl | exact Nat.le_refl _ | exact fun _ _ => rfl | exact rowEq0 _ _)
   all_goals omega
  ·replace hc := of_decide_eq_false hc
   conv => whnf
   refine ⟨?_, [], ?_⟩
   ·exact g0
   conv => whnf
   refine ⟨rfl, ?_, trivial, trivial⟩
   all_goals repeat' (first | exact True.intro | refine leF_cons rfl ?_ ?_ | refine leS_cons rfl ?_ ?_ | (show PLe _ _ _ _; conv => whnf) | (show SLe _ _ _ _; conv => whnf) | (show PLeL _ _ _ _; conv => whnf) | apply And.intro | rfl | exact Nat.le_refl _ | exact fun _ _ => rfl | exact rowEq0 _ _)
theorem call54g (ρ : Nat) (l : List Int) (hn : l.length ≤ 4611686018427387904) (hg : ∀ x ∈ l, wi x 1073741824 = true) :
  PureCall Tryz.prog 54 [.sl ρ 1 l.length (fl eInt l), .fn (.func 169) [] []] [] ⟨.bool false, [], []⟩ := by
 refine pure_call mix Tryz.func54 fits54 rfl ?_
 conv => whnf
 refine ⟨_, fun _ => call122g _ l hn hg, ?_⟩
 conv => whnf
 refine ⟨?_, [], ?_⟩
 ·exact g0
 conv => whnf
 refine ⟨rfl, ?_, trivial, trivial⟩
 all_goals repeat' (first | exact True.intro | refine leF_cons rfl ?_ ?_ | refine leS_cons rfl ?_ ?_ | (show PLe _ _ _ _; conv => whnf) | (show SLe _ _ _ _; conv => whnf) | (show PLeL _ _ _ _; conv => whnf) | apply And.intro | rfl | exact Nat.le_refl _ | exact fun _ _ => rfl | exact rowEq0 _ _)
theorem call111 (ρ : Nat) (l : List Int) (hn : l.length ≤ 4611686018427387904) (hg : ∀ x ∈ l, wi x 1073741824 = true) : PureCall Tryz.prog 111 [.sl ρ 1 l.length (fl eInt l)] [] ⟨.bool true, [], []⟩ := by
 refine pure_call mix Tryz.func111 fits111 rfl ?_
 conv => whnf
 refine ⟨_, fun _ => call54g _ l hn hg, ?_⟩
 conv => whnf
 refine ⟨?_, [], ?_⟩
 ·exact g0
 conv => whnf
 refine ⟨rfl, ?_, trivial, trivial⟩
 all_goals repeat' (first | exact True.intro | refine leF_cons rfl ?_ ?_ | refine leS_cons rfl ?_ ?_ | (show PLe _ _ _ _; conv => whnf) | (show SLe _ _ _ _; conv => whnf) | (show PLeL _ _ _ _; conv => whnf) | apply And.intro | rfl | exact Nat.le_refl _ | exact fun _ _ => rfl | exact rowEq0 _ _)
def towF (r t up down : Int) : Int := if r < t then min (r + up) t else max (r - down) t
theorem call112 (r t up down : Int) (h1 : 0 ≤ r ∧ r ≤ 1073741824) (h3 : 0 ≤ up ∧ up ≤ 1073741824) (h4 : 0 ≤ down ∧ down ≤ 1073741824) : PureCall Tryz.prog 112 [.int .i64 r, .int .i64 t, .int .i64 up, .int .i64 down] [] ⟨.int .i64 (towF r t up down), [], []⟩ := by
 refine pure_call mix Tryz.func112 fits112 rfl ?_
 conv => whnf
 refine ⟨?_, fun hc => ?_, fun hc => ?_⟩
 ·exact g0
 ·simp only [bp] at hc
  rw [show towF r t up down = min (r + up) t from if_pos hc]
  conv => whnf
  refine ⟨?_, [], ?_⟩
  ·exact g0
  conv => whnf
  refine ⟨rfl, ?_, trivial, trivial⟩
  all_goals repeat' (first | exact True.intro | refine leF_cons rfl ?_ ?_ | refine leS_cons rfl ?_ ?_ | (show PLe _ _ _ _; conv => whnf) | (show SLe _ _ _ _; conv => whnf) | (show PLeL _ _ _ _; conv => whnf) | apply And.intro | rfl | exact Nat.le_refl _ | exact fun _ _ => rfl | exact rowEq0 _ _)
  all_goals (split <;> omega)
 ·simp only [bp] at hc
  rw [show towF r t up down = max (r - down) t from if_neg hc]
  conv => whnf
  refine ⟨?_, [], ?_⟩
  ·exact g0
  conv => whnf
  refine ⟨rfl, ?_, trivial, trivial⟩
  all_goals repeat' (first | exact True.intro | refine leF_cons rfl ?_ ?_ | refine leS_cons rfl ?_ ?_ | (show PLe _ _ _ _; conv => whnf) | (show SLe _ _ _ _; conv => whnf) | (show PLeL _ _ _ _; conv => whnf) | apply And.intro | rfl | exact Nat.le_refl _ | exact fun _ _ => rfl | exact rowEq0 _ _)
  all_goals (split <;> omega)
theorem towF_rng {r t up down : Int} (h1 : 0 ≤ r ∧ r ≤ 1073741824) (h2 : 0 ≤ t ∧ t ≤ 1073741824) (h3 : 0 ≤ up) (h4 : 0 ≤ down) : 0 ≤ towF r t up down ∧ towF r t up down ≤ 1073741824 := by
 unfold towF; split <;> omega
def towN (r t up down : Int) : Nat → Int
 | 0 => r
 | n + 1 => towF (towN r t up down n) t up down
theorem towN_rng {r t up down : Int} (h1 : 0 ≤ r ∧ r ≤ 1073741824) (h2 : 0 ≤ t ∧ t ≤ 1073741824) (h3 : 0 ≤ up) (h4 : 0 ≤ down) : ∀ n, 0 ≤ towN r t up down n ∧ towN r t up down n ≤ 1073741824
 | 0 => h1
 | n + 1 => towF_rng (towN_rng h1 h2 h3 h4 n) h2 h3 h4
def wayF (r t up down : Int) (n : Nat) : List Int := (List.range n).map fun k => towN r t up down (k + 1)
theorem wayF_len (r t up down : Int) (n : Nat) : (wayF r t up down n).length = n := by simp [wayF]
theorem wayF_succ (r t up down : Int) (n : Nat) : wayF r t up down (n + 1) = wayF r t up down n ++ [towN r t up down (n + 1)] := by
 unfold wayF; rw [List.range_succ, List.map_append]; rfl
theorem rowL3 (a b c : Int) : RowEq 3 (fun i => [[PV.int .i64 a], [PV.int .i64 b], [PV.int .i64 c]].getD i []) (fl eInt [a, b, c]) := fun i hi => by
 match i, hi with
 | 0, _ => rfl
 | 1, _ => rfl
 | 2, _ => rfl
theorem call47 (b up down : Int) (n : Nat) (h1 : wi b 1073741824 = true) (h2 : wi up 1073741824 = true) (h3 : wi down 1073741824 = true) (hn : n ≤ 4096) :
  PureCall Tryz.prog 47 [.int .i64 b, .int .i64 up, .int .i64 down, .int .i64 n] [] ⟨.tup [.agg [.int .i64 (max (b - down * n) 0), .int .i64 (min (b + up * n) 1073741824)], .int .i64 0], [], []⟩ := by
 have e1 := (wi_iff _ _).1 h1
 have e2 := (wi_iff _ _).1 h2
 have e3 := (wi_iff _ _).1 h3
 have m1 : 0 ≤ up * n ∧ up * n ≤ 1073741824 * 4096 := ⟨Int.mul_nonneg e2.1 (by omega), Int.mul_le_mul e2.2 (by omega) (by omega) (by omega)⟩
 have m2 : 0 ≤ down * n ∧ down * n ≤ 1073741824 * 4096 := ⟨Int.mul_nonneg e3.1 (by omega), Int.mul_le_mul e3.2 (by omega) (by omega) (by omega)⟩
 have hw : wi (n : Int) 4096 = true := (wi_iff _ _).2 (by omega)
 have hall : ∀ x ∈ [b, up, down], wi x 1073741824 = true := fun x hx => by
  simp only [List.mem_cons, List.not_mem_nil, or_false] at hx
  rcases hx with rfl | rfl | rfl <;> assumption
 refine pure_call mix Tryz.func47 fits47 rfl ?_
 conv => whnf
 refine ⟨_, fun _ => PureCall.arg_le (call111 2 [b, up, down] (by simp) hall) rfl ?_, ?_⟩
 ·have hr := rowL3 b up down
  exact ent
 conv => whnf
 refine ⟨?_, fun hc => absurd hc (by decide), fun _ => ?_⟩
 ·exact g0
 conv => whnf
 refine ⟨_, fun _ => call56 n 4096, ?_⟩
 rw [hw]
 conv => whnf
 refine ⟨?_, fun hc => absurd hc (by decide), fun _ => ?_⟩
 ·exact g0
 conv => whnf
 generalize up * (n : Int) = U at m1 ⊢
 generalize down * (n : Int) = D at m2 ⊢
 refine ⟨?_, [], ?_⟩
 ·exact g0
 conv => whnf
 refine ⟨rfl, ?_, trivial, trivial⟩
 all_goals repeat' (first | exact True.intro | refine leF_cons rfl ?_ ?_ | refine leS_cons rfl ?_ ?_ | (show PLe _ _ _ _; conv => whnf) | (show SLe _ _ _ _; conv => whnf) | (show PLeL _ _ _ _; conv => whnf) | apply And.intro | rfl | exact Nat.le_refl _ | exact fun _ _ => rfl | exact rowEq0 _ _)
 all_goals (split <;> omega)
end Pv
end Go.Proofs.YtdcgnfkkklbckaaGreatDoor
/- ARGUMENTS AS THEY COME IN: what a readable argument stands for. -/
set_option linter.unusedSimpArgs false
set_option linter.unusedVariables false
namespace Go.Proofs.YtdcgnfkkklbckaaGreatDoor
namespace Pv
open Go.RowKit Go.ChangeShapes
inductive Sh where
 | int (k : IntKind)
 | bool
 | str
 | sl (shs : List Sh)
 deriving Inhabited
inductive ShR : Sh → PV → Prop where
 | int (k : IntKind) (n : Int) (h : inR k n) : ShR (.int k) (.int k n)
 | bool (b : Bool) : ShR .bool (.bool b)
 | str (s : List UInt8) (h : s.length ≤ maxLen) : ShR .str (.str s)
 | sl (shs : List Sh) (n : Nat) (f : Nat → List PV) (hn : n ≤ maxLen) (h1 : ∀ i, i < n → (f i).length = shs.length)
   (h2 : ∀ (i j : Nat) (s : Sh) (p : PV), i < n → shs[j]? = some s → (f i)[j]? = some p → ShR s p) : ShR (.sl shs) (.sl 1 shs.length n f)
def ShL (shs : List Sh) (ps : List PV) : Prop := ps.length = shs.length ∧ ∀ (j : Nat) (s : Sh) (p : PV), shs[j]? = some s → ps[j]? = some p → ShR s p
def fieldSh (sh : TypeId → Option (List Sh)) (P : Program) : Nat → List Field → Option (List Sh)
 | _, [] => some []
 | off, f :: fs => if f.offset = off then match sh f.type with
   | some s => if s.length = P.cellsOf f.type then match fieldSh sh P (off + s.length) fs with
     | some r => some (s ++ r)
     | none => none
     else none
   | none => none
   else none
def shp (P : Program) : Nat → TypeId → Option (List Sh)
 | 0, _ => none
 | m + 1, t => match P.underlying t with
   | some .bool => some [.bool]
   | some (.int k) => some [.int k]
   | some .string => some [.str]
   | some (.slice e) => match shp P m e with
     | some s => if s.length = P.cellsOf e ∧ 0 < s.length then some [.sl s] else none
     | none => none
   | some (.struct fs) => match fieldSh (shp P m) P 0 fs.toList with
     | some s => if s.length = P.cellsOf t then some s else none
     | none => none
   | _ => none
theorem ShR.flat {s : Sh} {p : PV} (h : ShR s p) : p.flat = true := by cases h <;> rfl
theorem ShR.mark1 {s : Sh} {p : PV} (h : ShR s p) : p.mark 1 = p := by cases h <;> rfl
theorem ShL.append {a b : List Sh} {x y : List PV} (h : ShL a x) (h' : ShL b y) : ShL (a ++ b) (x ++ y) := by
 refine ⟨by simp [h.1, h'.1], fun j s p hs hp => ?_⟩
 rw [List.getElem?_append] at hs hp
 rw [h.1] at hp
 split at hs
 ·rename_i hj; rw [if_pos hj] at hp; exact h.2 j s p hs hp
 ·rename_i hj; rw [if_neg hj] at hp; exact h'.2 _ s p hs hp
section
variable {H : Type} {enc : TypeId × Value → H} {P : Program} {w : World} {sp : Nat → Bool} {held : Bool} {X : Cx} {γ : Gh}
theorem trod_fields {m n : Nat} {cs : List Value} {xs : List (DataW H × List MemPlace)}
  (ih : ∀ (t : TypeId) (cs : List Value) (x : DataW H × List MemPlace) (shs : List Sh), shp P m t = some shs → DataW.trod enc P w 0 sp held n t cs = some x → ∃ ps, ShL shs ps ∧ RepL X γ w ps cs ∧ ∀ u ∈ cs, u.oneCell' = true) :
  ∀ (fs : List Field) (off k : Nat) (shs : List Sh), fieldSh (shp P m) P off fs = some shs → off + shs.length = cs.length → (∀ i f, fs[i]? = some f → DataW.trod enc P w 0 sp held n f.type ((cs.drop f.offset).take (P.cellsOf f.type)) = xs[k + i]?) → k + fs.length = xs.length →
   ∃ ps, ShL shs ps ∧ RepL X γ w ps (cs.drop off) ∧ ∀ u ∈ cs.drop off, u.oneCell' = true
 | [], off, k, shs, h, hl, hx, hk => by
   simp only [fieldSh, Option.some.injEq] at h; subst h
   have e : cs.drop off = [] := List.drop_eq_nil_of_le (by simpa using hl.symm ▸ Nat.le_refl _)
   rw [e]
   exact ⟨[], ⟨rfl, fun j s p hs => by simp at hs⟩, RepL.nil_, by simp⟩
 | f :: fs, off, k, shs, h, hl, hx, hk => by
   simp only [fieldSh] at h
   split at h
   ·rename_i hoff
    split at h
    ·rename_i s hs
     split at h
     ·rename_i hsl
      split at h
      ·rename_i r hr
       injection h with h; subst h
       simp only [List.length_append] at hl
       obtain ⟨ps', h1, h2, h3⟩ := trod_fields (cs := cs) ih fs (off + s.length) (k + 1) r hr (by omega) (fun i f' hf => by
        have := hx (i + 1) f' (by simpa using hf)
        rw [show k + (i + 1) = k + 1 + i from by omega] at this; exact this) (by simp only [List.length_cons] at hk; omega)
       have h0 := hx 0 f rfl
       have hk0 : k + 0 < xs.length := by simp only [List.length_cons] at hk; omega
       rw [List.getElem?_eq_getElem hk0] at h0
       obtain ⟨ps, g1, g2, g3⟩ := ih _ _ _ _ hs h0
       rw [hoff, ← hsl] at g2 g3
       have e : cs.drop off = (cs.drop off).take s.length ++ cs.drop (off + s.length) := by
        rw [← List.drop_drop, List.take_append_drop]
       refine ⟨ps ++ ps', g1.append h1, ?_, ?_⟩
       ·rw [e]; exact g2.append h2
       ·rw [e]
        intro u hu
        rcases List.mem_append.1 hu with hu | hu
        ·exact g3 u hu
        ·exact h3 u hu
      ·cases h
     ·cases h
    ·cases h
   ·cases h
theorem trod_rep (hX : ∀ b, b < w.heap.size → mayLie X γ 1 b) : ∀ (m fuel : Nat) (t : TypeId) (cs : List Value) (x : DataW H × List MemPlace) (shs : List Sh), shp P m t = some shs → DataW.trod enc P w 0 sp held fuel t cs = some x →
  ∃ ps, ShL shs ps ∧ RepL X γ w ps cs ∧ ∀ u ∈ cs, u.oneCell' = true := by
 have one : ∀ (s : Sh) (p : PV) (v : Value), ShR s p → Rep X γ w p v → v.oneCell' = true → ∃ ps, ShL [s] ps ∧ RepL X γ w ps [v] ∧ ∀ u ∈ [v], u.oneCell' = true := fun s p v h1 h2 h3 =>
  ⟨[p], ⟨rfl, fun j s' p' hs hp => by
   cases j with
   | zero => simp only [List.getElem?_cons_zero, Option.some.injEq] at hs hp; subst hs; subst hp; exact h1
   | succ j => simp at hs⟩, RepL.cons_ h2 RepL.nil_, by simpa using h3⟩
 intro m
 induction m with
 | zero => intro fuel t cs x shs h; simp [shp] at h
 | succ m ih =>
   intro fuel t cs x shs h hd
   simp only [shp] at h
   split at h
   ·rename_i ht
    injection h with h; subst h
    obtain ⟨b, rfl, _⟩ := DataW.trod_bool ht hd
    exact one _ _ _ (.bool b) (.bool b) rfl
   ·rename_i k ht
    injection h with h; subst h
    obtain ⟨n, rfl, _, hw⟩ := DataW.trod_int ht hd
    simp only [Lit.wf, Bool.and_eq_true, decide_eq_true_eq] at hw
    exact one _ _ _ (.int k n hw) (.int k n) rfl
   ·rename_i ht
    injection h with h; subst h
    obtain ⟨s, rfl, _, hw⟩ := DataW.trod_string ht hd
    have e : s = ⟨s.data.toList.toArray⟩ := by cases s; simp
    refine one _ (.str s.data.toList) _ (.str _ (by rw [Array.length_toList]; exact hw)) ?_ rfl
    have := Rep.str (X := X) (γ := γ) (w := w) s.data.toList
    rwa [← e] at this
   ·rename_i e ht
    split at h
    ·rename_i s hs
     split at h
     ·rename_i hc
      obtain ⟨hsl, hpos⟩ := hc
      injection h with h; subst h
      rcases DataW.trod_slice ht hd with ⟨rfl, _⟩ | ⟨a, len, cap, elems, rest, n, hf, rfl, _, hb, hlc, hcm, hel, helem, _, _⟩
      ·refine one _ (.sl 1 s.length 0 (fun _ => [])) _ (.sl s 0 _ (Nat.zero_le _) (fun i hi => by omega) (fun i j s p hi => by omega)) ?_ rfl
       exact .sl 1 _ 0 _ none 0 (fun _ => undef) (Nat.le_refl _) (fun i hi => by omega) (fun i hi => by omega) (fun hi => by omega) (fun i j c hi => by omega)
      ·have hex : ∀ i, ∃ ps, i < len → ShL s ps ∧ ∃ cs', w.cells? 0 (a.add (i * P.cellsOf e)) (P.cellsOf e) = some cs' ∧ RepL X γ w ps cs' := fun i => by
        by_cases hi : i < len
        ·have h1 := helem i hi
         rw [List.getElem?_eq_getElem (by omega)] at h1
         obtain ⟨cs', h2, h3⟩ := Option.bind_eq_some_iff.1 h1
         obtain ⟨ps, g1, g2, _⟩ := ih _ _ _ _ _ hs h3
         exact ⟨ps, fun _ => ⟨g1, cs', h2, g2⟩⟩
        ·exact ⟨[], fun h => absurd h hi⟩
       let f : Nat → List PV := fun i => Classical.choose (hex i)
       have hf' : ∀ i, i < len → ShL s (f i) ∧ ∃ cs', w.cells? 0 (a.add (i * P.cellsOf e)) (P.cellsOf e) = some cs' ∧ RepL X γ w (f i) cs' := fun i => Classical.choose_spec (hex i)
       have hcell : ∀ i j, i < len → j < s.length → ∃ u p, w.cell? (a.add (i * s.length + j)) = some u ∧ (f i)[j]? = some p ∧ Rep X γ w p u := fun i j hi hj => by
        obtain ⟨g1, cs', g2, g3⟩ := hf' i hi
        obtain ⟨_, k2, k3⟩ := World.cells?_some g2
        have hj' : j < cs'.length := by rw [k2, ← hsl]; exact hj
        have hk := k3 j (by rw [← hsl]; exact hj)
        rw [List.getElem?_eq_getElem hj', add_add_, ← hsl] at hk
        have hpj : j < (f i).length := by rw [g1.1]; exact hj
        exact ⟨_, _, hk, List.getElem?_eq_getElem hpj, g3.2 j _ _ (List.getElem?_eq_getElem hpj) (List.getElem?_eq_getElem hj')⟩
       refine one _ (.sl 1 s.length len f) _ (.sl s len f (Nat.le_trans hlc hcm) (fun i hi => (hf' i hi).1.1) (fun i j s' p hi hs' hp => (hf' i hi).1.2 j s' p hs' hp)) ?_ rfl
       have hsh : ∀ i, i < len → ∀ c ∈ f i, ∃ s', ShR s' c := fun i hi c hc => by
        obtain ⟨j, hj⟩ := List.getElem?_of_mem hc
        have hlt := (List.getElem?_eq_some_iff.1 hj).1
        have hlt2 : j < s.length := by rw [← (hf' i hi).1.1]; exact hlt
        exact ⟨_, (hf' i hi).1.2 j _ _ (List.getElem?_eq_getElem hlt2) hj⟩
       refine .sl 1 s.length len f (some a) cap (fun k => (w.cell? (a.add k)).getD undef) hlc (fun i hi => (hf' i hi).1.1) (fun i hi c hc => by obtain ⟨s', h⟩ := hsh i hi c hc; exact h.flat) (fun hn => ?_) (fun i j c hi hc => ?_)
       ·obtain ⟨u, p, h1, _, _⟩ := hcell 0 0 hn hpos
        have hblk : a.block < w.heap.size := by
         obtain ⟨_, cs', g2, _⟩ := hf' 0 hn
         have := World.cells?_block g2 (by omega)
         have e : (a.add (0 * P.cellsOf e)).block = a.block := by unfold Addr.add; split <;> rfl
         rwa [e] at this
        refine ⟨a, rfl, hX _ hblk, hblk, fun k hk => ?_⟩
        have hk1 : k / s.length < len := by rw [Nat.div_lt_iff_lt_mul hpos]; exact hk
        obtain ⟨u, p, h1, _, _⟩ := hcell (k / s.length) (k % s.length) hk1 (Nat.mod_lt _ hpos)
        rw [Nat.mul_comm, Nat.div_add_mod] at h1
        exact cellT_pos (by decide) (by rw [h1]; rfl)
       ·have hj : j < s.length := by rw [← (hf' i hi).1.1]; exact (List.getElem?_eq_some_iff.1 hc).1
        obtain ⟨u, p, h1, h2, h3⟩ := hcell i j hi hj
        rw [h2] at hc; injection hc with hc; subst hc
        obtain ⟨s', h⟩ := hsh i hi p (List.mem_of_getElem? h2)
        rw [h.mark1, h1]; exact h3
     ·cases h
    ·cases h
   ·rename_i fs ht
    split at h
    ·rename_i s hs
     split at h
     ·rename_i hsl
      injection h with h; subst h
      obtain ⟨xs, n, rfl, _, hcl, hxl, hx⟩ := DataW.trod_struct ht hd
      obtain ⟨ps, h1, h2, h3⟩ := trod_fields (cs := cs) (xs := xs) (ih n) fs.toList 0 0 s hs (by omega) (fun i f hf => by rw [Nat.zero_add]; exact hx i f (by simpa using hf)) (by simpa using hxl.symm)
      exact ⟨ps, h1, by simpa using h2, by simpa using h3⟩
     ·cases h
    ·cases h
   ·cases h
end
end Pv
end Go.Proofs.YtdcgnfkkklbckaaGreatDoor
/- A LAW's ROW, FROM ITS FUNCTION's CONTRACT. -/
set_option linter.unusedSimpArgs false
set_option linter.unusedVariables false
namespace Go.Proofs.YtdcgnfkkklbckaaGreatDoor
namespace Pv
open Go.RowKit Go.ChangeShapes
section
variable {H : Type} {enc : TypeId × Value → H} {P : Program} {w : World} {sp : Nat → Bool} {held : Bool}
def cx0 (w : World) : Cx := ⟨w.heap.size, fun b => b < w.heap.size, fun _ => False, 0, fun _ => none, []⟩
def gh0 : Gh := fun _ => none
theorem gh0_own (b : Nat) : ¬ gh0.own b := by rintro ⟨r, ge, h, _⟩; cases h
theorem lie0 (b : Nat) (hb : b < w.heap.size) : mayLie (cx0 w) gh0 1 b := ⟨gh0_own b, .inr (.inl ⟨Nat.le_refl _, hb⟩)⟩
def GlobOK (w : World) : Prop := ∀ b p, glob b = some p → ∃ o, w.heap[b]? = some o ∧ p o
theorem globOK_none (h : ∀ b, glob b = none) : GlobOK w := fun b p hb => by rw [h b] at hb; cases hb
theorem st0 (hgl : GlobOK w) : RepSt (cx0 w) gh0 w (fun r => ([] : List SE)[r]?) :=
 ⟨fun r => by simp [gh0], fun r ge e h => (by cases h), fun r r' ge ge' b h => (by cases h), fun b hb => absurd hb (gh0_own b), fun b hb => absurd hb (gh0_own b), fun b p hb => ⟨hgl b p hb, gh0_own b, by
  obtain ⟨o, h1, _⟩ := hgl b p hb
  exact (Array.getElem?_eq_some_iff.1 h1).1⟩⟩
theorem law_calls (hgl : GlobOK w) {f : FuncId} {args : List PV} {vals : List Value} (h : PureCall P f args [] ⟨.bool true, [], []⟩) (hr : RepL (cx0 w) gh0 w args vals) :
  Calls P f vals.toArray w fun e w' => e = .returned (.bool true) ∧ Below w.heap.size w w' := by
 have hst : RepSt ⟨w.heap.size, (cx0 w).as, (cx0 w).ls, ([] : List SE).length, gh0, []⟩ gh0 w (fun r => ([] : List SE)[r]?) :=
  st0 (w := w) hgl
 refine (h.2 w gh0 (cx0 w).as (cx0 w).ls vals hst (fun b hb => hb.elim (fun h => h) (fun h => h.elim)) hr).mono ?_
 rintro e w' ⟨v, γ', rfl, hv, _, hk, _, _⟩
 cases hv.bool_inv
 exact ⟨rfl, hk.os, hk.tape, hk.output, hk.size, fun k hk' => hk.block k hk' (gh0_own k)⟩
theorem arg_one {m : Nat} {t : TypeId} {s : Sh} {v : Value} {d : DataW H} {ps : List MemPlace} (hs : shp P m t = some [s]) (hv : v.oneCell' = true) (h : DataW.Trod enc P w 0 sp held t v d ps) : ∃ p, ShR s p ∧ Rep (cx0 w) gh0 w p v := by
 obtain ⟨fuel, hf⟩ := h
 rw [cells_one hv] at hf
 obtain ⟨ps, h1, h2, _⟩ := trod_rep (X := cx0 w) (γ := gh0) lie0 _ _ _ _ _ _ hs hf
 obtain ⟨h1, h1'⟩ := h1
 match ps, h1 with
 | [p], _ =>
   obtain ⟨u, us, hu, hr, _⟩ := h2.cons_inv
   simp only [List.cons.injEq] at hu
   exact ⟨p, h1' 0 s p rfl rfl, by rw [hu.1]; exact hr⟩
theorem arg_agg {m : Nat} {t : TypeId} {shs : List Sh} {cs : Array Value} {d : DataW H} {ps : List MemPlace} (hs : shp P m t = some shs) (h : DataW.Trod enc P w 0 sp held t (.agg cs) d ps) : ∃ qs, ShL shs qs ∧ Rep (cx0 w) gh0 w (.agg qs) (.agg cs) := by
 obtain ⟨fuel, hf⟩ := h
 obtain ⟨qs, h1, h2, h3⟩ := trod_rep (X := cx0 w) (γ := gh0) lie0 _ _ _ _ _ _ hs hf
 have := Rep.agg qs cs.toList h2.1 h3 h2.2
 exact ⟨qs, h1, by simpa using this⟩
theorem Rep.le0 (hgl : GlobOK w) {p q : PV} {v : Value} (h : Rep (cx0 w) gh0 w p v) (hl : PLe (fun r => ([] : List SE)[r]?) (fun _ => true) p q) : Rep (cx0 w) gh0 w q v :=
 h.le (γk := gh0) (st0 hgl) (fun r ge b hr _ _ => (by cases hr)) (fun r ge hr _ => hr) (fun r ge hr => ⟨hr, rfl⟩) q hl
theorem sh_list (hgl : GlobOK w) {α : Type} [Inhabited α] (e : α → List PV) (Q : α → Prop) {shs : List Sh} (hdec : ∀ ps, ShL shs ps → ∃ x, ps = e x ∧ Q x) {p : PV} (h : ShR (.sl shs) p) {v : Value} (hr : Rep (cx0 w) gh0 w p v) :
  ∃ l : List α, Rep (cx0 w) gh0 w (.sl 1 shs.length l.length (fl e l)) v ∧ l.length ≤ maxLen ∧ ∀ x ∈ l, Q x := by
 cases h with
 | sl _ n f hn h1 h2 =>
   have hx : ∀ i, ∃ x, i < n → f i = e x ∧ Q x := fun i => by
    by_cases hi : i < n
    ·obtain ⟨x, hx⟩ := hdec (f i) ⟨h1 i hi, fun j s p hs hp => h2 i j s p hi hs hp⟩
     exact ⟨x, fun _ => hx⟩
    ·exact ⟨default, fun h => absurd h hi⟩
   let g : Nat → α := fun i => Classical.choose (hx i)
   have hg : ∀ i, i < n → f i = e (g i) ∧ Q (g i) := fun i => Classical.choose_spec (hx i)
   refine ⟨(List.range n).map g, hr.le0 hgl ?_, by simpa using hn, fun x hm => ?_⟩
   ·refine ⟨Nat.le_refl _, rfl, by simp, fun i hi => ?_⟩
    rw [(hg i hi).1]
    simp [fl, List.getD_eq_getElem?_getD, hi]
   ·obtain ⟨i, hi, rfl⟩ := List.mem_map.1 hm
    exact (hg i (List.mem_range.1 hi)).2
theorem sh_int {k : IntKind} {p : PV} (h : ShR (.int k) p) : ∃ n, p = .int k n ∧ inR k n := by cases h with | int _ n h => exact ⟨n, rfl, h⟩
theorem sh_bool {p : PV} (h : ShR .bool p) : ∃ b, p = .bool b := by cases h with | bool b => exact ⟨b, rfl⟩
theorem sh_str {p : PV} (h : ShR .str p) : ∃ s, p = .str s ∧ s.length ≤ maxLen := by cases h with | str s h => exact ⟨s, rfl, h⟩
theorem shl_cons {s : Sh} {ss : List Sh} {ps : List PV} (h : ShL (s :: ss) ps) : ∃ p qs, ps = p :: qs ∧ ShR s p ∧ ShL ss qs := by
 obtain ⟨h1, h2⟩ := h
 match ps, h1 with
 | p :: qs, h1 => exact ⟨p, qs, rfl, h2 0 s p rfl rfl, by simpa using h1, fun j s' p' hs hp => h2 (j + 1) s' p' (by simpa using hs) (by simpa using hp)⟩
theorem shl_nil {ps : List PV} (h : ShL [] ps) : ps = [] := List.eq_nil_of_length_eq_zero h.1
end
end Pv
end Go.Proofs.YtdcgnfkkklbckaaGreatDoor
/- A LAW's ROW, FROM ITS FUNCTION's CONTRACT: how long slices are that came in. -/
set_option linter.unusedSimpArgs false
set_option linter.unusedVariables false
namespace Go.Proofs.YtdcgnfkkklbckaaGreatDoor
namespace Pv
open Go.RowKit Go.ChangeShapes
section
variable {H : Type} {enc : TypeId × Value → H} {P : Program} {w : World} {sp : Nat → Bool} {held : Bool}
theorem sized_len {ts : List TypeId} {ds : List (DataW H)} (hz : (DataW.weightsEach P ts ds).all (· ≤ reachBytes) = true) {j : Nat} {t e : TypeId} {d : DataW H} {ps : List MemPlace} {a : Option Addr} {len cap : Nat}
  (ht : ts[j]? = some t) (hd : ds[j]? = some d) (hu : P.underlying t = some (.slice e)) (h : DataW.Trod enc P w 0 sp held t (.slice a len cap) d ps)
  (hb : 0 < P.bytesOf e) {X : Cx} {γ : Gh} {τ z n : Nat} {f : Nat → List PV} (hr : Rep X γ w (.sl τ z n f) (.slice a len cap)) : n ≤ 140737488351232 := by
 have hn : n = len := by cases hr; rfl
 subst hn
 obtain ⟨fuel, hf⟩ := h
 rcases DataW.trod_slice hu hf with ⟨h1, _⟩ | ⟨a', len', cap', elems, rest, m, _, h1, h2, _, _, _, h3, _⟩
 ·have h1' : Value.slice a n cap = .slice none 0 0 := by simpa [Value.cells] using h1
  injection h1' with _ h4 _
  omega
 ·have h1' : Value.slice a n cap = .slice (some a') len' cap' := by simpa [Value.cells] using h1
  injection h1' with _ h4 _
  injection h2 with h5 _
  subst h5
  have := sized_slice hz ht hd hu
  simp only [List.length_map] at this
  have h6 : n * 1 ≤ (elems.length + rest.length) * P.bytesOf e := Nat.mul_le_mul (by omega) hb
  have h7 : reachBytes = 140737488351232 := rfl
  omega
end
end Pv
end Go.Proofs.YtdcgnfkkklbckaaGreatDoor
/- A LAW's ROW, FROM ITS FUNCTION's CONTRACT: slices of slices that came in. -/
set_option linter.unusedSimpArgs false
set_option linter.unusedVariables false
namespace Go.Proofs.YtdcgnfkkklbckaaGreatDoor
namespace Pv
open Go.RowKit Go.ChangeShapes
section
variable {H : Type} {enc : TypeId × Value → H} {P : Program} {w : World} {sp : Nat → Bool} {held : Bool}
def eSl {α : Type} [Inhabited α] (k : Nat) (e : α → List PV) (m : List α) : List PV := [.sl 1 k m.length (fl e m)]
theorem sh_list2 (hgl : GlobOK w) {α : Type} [Inhabited α] (e : α → List PV) (Q : α → Prop) {shs : List Sh} (hdec : ∀ ps, ShL shs ps → ∃ x, ps = e x ∧ Q x) {p : PV} (h : ShR (.sl [.sl shs]) p) {v : Value} (hr : Rep (cx0 w) gh0 w p v) :
  ∃ G : List (List α), Rep (cx0 w) gh0 w (.sl 1 1 G.length (fl (eSl shs.length e) G)) v ∧ G.length ≤ maxLen ∧ ∀ m ∈ G, ∀ x ∈ m, Q x := by
 cases h with
 | sl _ n f hn h1 h2 =>
   have hx : ∀ i, ∃ m : List α, i < n → ∃ f', f i = [.sl 1 shs.length m.length f'] ∧ RowEq m.length f' (fl e m) ∧ ∀ x ∈ m, Q x := fun i => by
    by_cases hi : i < n
    ·have hl := h1 i hi
     match hf : f i, hl with
     | [c], _ =>
       have hc := h2 i 0 (.sl shs) c hi rfl (by rw [hf]; rfl)
       cases hc with
       | sl _ n' f' hn' g1 g2 =>
         have hy : ∀ i, ∃ x, i < n' → f' i = e x ∧ Q x := fun j => by
          by_cases hj : j < n'
          ·obtain ⟨x, hx⟩ := hdec (f' j) ⟨g1 j hj, fun k s p hs hp => g2 j k s p hj hs hp⟩
           exact ⟨x, fun _ => hx⟩
          ·exact ⟨default, fun h => absurd h hj⟩
         refine ⟨(List.range n').map fun j => Classical.choose (hy j), fun _ => ⟨f', by simp, fun j hj => ?_, fun x hm => ?_⟩⟩
         ·simp only [List.length_map, List.length_range] at hj
          rw [(Classical.choose_spec (hy j) hj).1]
          simp [fl, List.getD_eq_getElem?_getD, hj]
         ·obtain ⟨j, hj, rfl⟩ := List.mem_map.1 hm
          exact (Classical.choose_spec (hy j) (List.mem_range.1 hj)).2
    ·exact ⟨[], fun h => absurd h hi⟩
   let g : Nat → List α := fun i => Classical.choose (hx i)
   have hg : ∀ i, i < n → ∃ f', f i = [.sl 1 shs.length (g i).length f'] ∧ RowEq (g i).length f' (fl e (g i)) ∧ ∀ x ∈ g i, Q x := fun i => Classical.choose_spec (hx i)
   refine ⟨(List.range n).map g, ?_, by simpa using hn, fun m hm => ?_⟩
   ·have hget : ∀ i, i < n → fl (eSl shs.length e) ((List.range n).map g) i = [.sl 1 shs.length (g i).length (fl e (g i))] := fun i hi => by
     simp [fl, eSl, List.getD_eq_getElem?_getD, hi]
    have hlen : ((List.range n).map g).length = n := by simp
    cases hr with
    | sl _ _ _ _ ad cap vs hcap hz hf hb hh =>
      rw [hlen]
      refine .sl 1 1 n _ ad cap vs hcap (fun i hi => by rw [hget i hi]; rfl) (fun i hi c hc => ?_) hb (fun i j c hi hc => ?_)
      ·rw [hget i hi] at hc
       rw [List.mem_singleton.1 hc]; rfl
      ·rw [hget i hi] at hc
       obtain ⟨f', e1, e2, _⟩ := hg i hi
       cases j with
       | zero =>
         simp only [List.getElem?_cons_zero, Option.some.injEq] at hc
         subst hc
         have := hh i 0 _ hi (by rw [e1]; rfl)
         exact this.le0 hgl ⟨Nat.le_refl _, rfl, rfl, e2⟩
       | succ j => simp at hc
   ·obtain ⟨i, hi, rfl⟩ := List.mem_map.1 hm
    obtain ⟨_, _, _, h3⟩ := hg i (List.mem_range.1 hi)
    exact h3
theorem weightsAll_mem {e : TypeId} : ∀ {l : List (DataW H)} {i : Nat} {d : DataW H}, l[i]? = some d → ∀ n ∈ d.weights P e, n ∈ DataW.weightsAll P e l
 | [], i, d, h, n, hn => by simp at h
 | x :: l, 0, d, h, n, hn => by
   simp only [List.getElem?_cons_zero, Option.some.injEq] at h
   subst h
   simp only [DataW.weightsAll, List.mem_append]; exact .inl hn
 | x :: l, i + 1, d, h, n, hn => by
   simp only [DataW.weightsAll, List.mem_append]; exact .inr (weightsAll_mem (by simpa using h) n hn)
theorem sized_len2 {ts : List TypeId} {ds : List (DataW H)} (hz : (DataW.weightsEach P ts ds).all (· ≤ reachBytes) = true) {j : Nat} {t e e2 : TypeId} {d : DataW H} {ps : List MemPlace} {a : Option Addr} {len cap : Nat}
  (ht : ts[j]? = some t) (hd : ds[j]? = some d) (hu : P.underlying t = some (.slice e)) (hu2 : P.underlying e = some (.slice e2)) (hce : P.cellsOf e = 1) (h : DataW.Trod enc P w 0 sp held t (.slice a len cap) d ps)
  {X : Cx} {γ : Gh} {τ n : Nat} {F : Nat → List PV} (hr : Rep X γ w (.sl τ 1 n F) (.slice a len cap)) {i τ' z' N : Nat} {f' : Nat → List PV} (hi : i < n) (hF : F i = [.sl τ' z' N f']) : N * P.bytesOf e2 ≤ 140737488351232 := by
 have hreach : reachBytes = 140737488351232 := rfl
 cases hr with
 | sl _ _ _ _ _ _ vs hcap hz' hf hb hh =>
 obtain ⟨a', rfl, _, _, hcell⟩ := hb (by omega)
 obtain ⟨fuel, hfu⟩ := h
 rcases DataW.trod_slice hu hfu with ⟨h1, _⟩ | ⟨a'', len', cap', elems, rest, m, _, h1, h2, _, _, _, h3, h4, _⟩
 ·simp [Value.cells] at h1
 ·have h1' : Value.slice (some a') len cap = .slice (some a'') len' cap' := by simpa [Value.cells] using h1
  injection h1' with h5 h6 h7
  injection h5 with h5
  subst h5; subst h6
  injection h2 with h8 _
  subst h8
  have h9 := h4 i hi
  rw [List.getElem?_eq_getElem (by omega), hce, Nat.mul_one] at h9
  obtain ⟨cs', g1, g2⟩ := Option.bind_eq_some_iff.1 h9
  obtain ⟨_, k2, k3⟩ := World.cells?_some g1
  have k4 := k3 0 (by omega)
  have hv := cellT_cell (hcell i (by omega))
  rw [add_add_, Nat.add_zero, hv] at k4
  have hcs : cs' = [vs i] := by
   match cs', k2, k4 with
   | [x], _, k4 => simp only [List.getElem?_cons_zero, Option.some.injEq] at k4; rw [k4]
  have hrep := hh i 0 _ hi (by rw [hF]; rfl)
  rw [Nat.mul_one, Nat.add_zero] at hrep
  simp only [PV.mark] at hrep
  subst hcs
  generalize vs i = u at hrep g2
  cases hrep with
  | sl _ _ _ _ ad cap2 vs2 _ _ _ _ _ =>
  rcases DataW.trod_slice hu2 g2 with ⟨q1, _⟩ | ⟨b, len2, cap3, elems2, rest2, m2, _, q1, q2, _, _, _, q3, _⟩
  ·have q1' : Value.slice ad N cap2 = .slice none 0 0 := by simpa using q1
   injection q1' with _ q5 _
   subst q5; rw [Nat.zero_mul]; exact Nat.zero_le _
  ·have q1' : Value.slice ad N cap2 = .slice (some b) len2 cap3 := by simpa using q1
   injection q1' with _ q5 _
   subst q5
   have hmem : (elems2.map (·.1)).length * P.bytesOf e2 ≤ ((elems2.map (·.1)).length + (rest2.map (·.1)).length) * P.bytesOf e2 := Nat.mul_le_mul_right _ (by omega)
   have he : (elems.map (·.1))[i]? = some (DataW.slice (elems2.map (·.1)) (rest2.map (·.1))) := by
    rw [List.getElem?_map, List.getElem?_eq_getElem (by omega), Option.map_some, q2]
   have hw1 : ((elems2.map (·.1)).length + (rest2.map (·.1)).length) * P.bytesOf e2 ∈ DataW.weightsEach P ts ds := by
    refine DataW.weights_mem_each ht hd _ ?_
    simp only [DataW.weights, hu, List.mem_cons, List.mem_append]
    refine .inr (.inl (weightsAll_mem he _ ?_))
    simp [DataW.weights, hu2]
   have := List.all_eq_true.1 hz _ hw1
   have h10 : ((elems2.map (·.1)).length + (rest2.map (·.1)).length) * P.bytesOf e2 ≤ reachBytes := by simpa using this
   have h11 : (elems2.map (·.1)).length = N := by rw [List.length_map]; exact q3
   rw [h11] at hmem h10
   omega
end
end Pv
end Go.Proofs.YtdcgnfkkklbckaaGreatDoor
/- A NIL SLICE IN A FIELD of a box is an empty slice of the call's own. -/
set_option linter.unusedSimpArgs false
set_option linter.unusedVariables false
namespace Go.Proofs.YtdcgnfkkklbckaaGreatDoor
namespace Pv
open Go.RowKit
variable {P : Program} {wr : Bool} {np n : Nat} {c : C} {Q : Lv → PS → Prop}
theorem LSem.adoptF {fr : Nat → Option PV} {st : Nat → Option SE} {ok : Prop} {log : Nat → Option LogE} (r k R : Nat) (e : TypeId) (z z' : Nat) (l : List PV) (h1 : st r = some (.box l)) (hk : l[k]? = some (.nil z')) (h2 : st R = none)
  (h : LSem P wr np c Q ⟨n, fr, upd (upd st R (.row 0 e z 0 (fun _ => []))) r (.box (l.set k (.os R))), ok, log⟩) : LSem P wr np c Q ⟨n, fr, st, ok, log⟩ := by
 intro hQ code hc X w0 may a w γ hX hR
 have hne : r ≠ R := fun e => by rw [e, h2] at h1; cases h1
 let ge : GE := ⟨none, .slice none 0 0, z⟩
 have hE : EffOK X γ w st (Eff.pure (.os R)) (.slice none 0 0) w (upd γ R ge) (upd st R (.row 0 e z 0 (fun _ => []))) :=
  EffOK.add hR.st hR.hX h2 rfl (Keeps.refl _ _) (fun b hb => by rcases hb with hb | hb <;> cases hb) (fun _ => ⟨[], rfl, rfl, rfl, ⟨by simp, .inl ⟨rfl, rfl⟩⟩, by simp, fun i hi => by omega, fun i hi => by omega, fun i j c u hi => by omega⟩)
   (fun _ => .os R ge (upd_same _ _ _) rfl rfl)
 have hR2 : Rel X w0 may (a.put none (.slice none 0 0)) w ⟨n, fr, upd st R (.row 0 e z 0 (fun _ => [])), ok, log⟩ (upd γ R ge) :=
  hR.after (s' := ⟨n, fr, upd st R (.row 0 e z 0 (fun _ => [])), ok, log⟩) hE rfl fun t p hp => .inr ⟨by simp, p, hp, (void_nil p).symm⟩
 have hr1 : (upd st R (.row 0 e z 0 (fun _ => []))) r = some (.box l) := by rw [upd_ne _ _ hne]; exact h1
 refine h hQ code hc X w0 may a w (upd γ R ge) hX ⟨hR2.size, hR2.defers, hR2.fr, ?_, hR2.keeps, hR2.lo, hR2.own, hR2.asLt, fun q hq => ?_, hR2.mayP, fun q en hq hf => ?_⟩
 ·have hst := hR2.st
  refine ⟨fun q => ?_, fun q g en hg hen => ?_, hst.inj, hst.asOff, hst.lt, hst.glob⟩
  ·have := hst.dom q
   by_cases hqr : q = r
   ·subst hqr
    simp only [upd_same]
    simp only at this
    rw [this, hr1]; rfl
   ·simp only [upd_ne _ _ hqr]; exact this
  ·by_cases hqr : q = r
   ·subst hqr
    simp only [upd_same, Option.some.injEq] at hen
    subst hen
    obtain ⟨b, g1, hbx⟩ := hst.at_ q g (.box l) hg hr1
    rcases hbx with ⟨T, vs, g3, g5, g4⟩ | ⟨ks, vks, ka, va, hh, ff, es, clock, hl, _⟩
    rotate_left
    ·rw [hl] at hk
     match k, hk with
     | 0, hk => cases hk
     | k + 1, hk => simp at hk
    refine ⟨b, g1, .inl ⟨T, vs, g3, g5, by rw [List.length_set]; exact g4.1, fun j c u hc hu => ?_⟩⟩
    by_cases hj : j = k
    ·subst hj
     have hlt : j < l.length := (List.getElem?_eq_some_iff.1 hk).1
     rw [List.getElem?_set_self hlt] at hc
     injection hc with hc; subst hc
     have := (g4.2 j _ u hk hu).nil_inv
     rw [this]
     exact .os R ge (upd_same _ _ _) rfl rfl
    ·rw [List.getElem?_set_ne (by omega)] at hc
     exact g4.2 j c u hc hu
   ·simp only [upd_ne _ _ hqr] at hen
    exact hst.at_ q g en hg hen
 ·have := hR2.par q hq
  by_cases hqr : q = r
  ·subst hqr
   simp only [upd_same]
   simp only at this
   rw [hr1] at this
   exact this
  ·simp only [upd_ne _ _ hqr]; exact this
 ·by_cases hqr : q = r
  ·subst hqr
   simp only [upd_same, Option.some.injEq] at hq
   subst hq
   cases hf
  ·simp only [upd_ne _ _ hqr] at hq
   exact hR2.fx q en hq hf
theorem LSem.untag {fr : Nat → Option PV} {st : Nat → Option SE} {ok : Prop} {log : Nat → Option LogE} (r τ : Nat) (e : TypeId) (f : Nat → List PV) (l : List Int) (h1 : st r = some (.row τ e 1 l.length f)) (hf : RowEq l.length f (fl (fun n : Int => [PV.int .i64 n]) l))
  (h : LSem P wr np c Q ⟨n, fr, upd st r (.row 0 e 1 l.length (fl (fun n : Int => [PV.int .i64 n]) l)), ok, log⟩) : LSem P wr np c Q ⟨n, fr, st, ok, log⟩ := by
 intro hQ code hc X w0 may a w γ hX hR
 refine h hQ code hc X w0 may a w γ hX ⟨hR.size, hR.defers, hR.fr, ?_, hR.keeps, hR.lo, hR.own, hR.asLt, fun q hq => ?_, hR.mayP, fun q en hq hf => ?_⟩
 ·have hst := hR.st
  refine ⟨fun q => ?_, fun q g en hg hen => ?_, hst.inj, hst.asOff, hst.lt, hst.glob⟩
  ·have := hst.dom q
   by_cases hqr : q = r
   ·subst hqr
    simp only [upd_same]
    simp only at this
    rw [this, h1]; rfl
   ·simp only [upd_ne _ _ hqr]; exact this
  ·by_cases hqr : q = r
   ·subst hqr
    simp only [upd_same, Option.some.injEq] at hen
    subst hen
    obtain ⟨vs, g1, g2, g3, g4, g5, g6, g7, g8⟩ := hst.at_ q g _ hg h1
    refine ⟨vs, g1, g2, g3, g4, g5, fun i _ => rfl, fun i _ c hc => ?_, fun i j c u hi hc hu => ?_⟩
    ·have : c = .int .i64 (l.getD i default) := by simpa [fl] using hc
     subst this; rfl
    ·have hc2 : (f i)[j]? = some c := by rw [hf i hi]; exact hc
     have h9 := g8 i j c u hi hc2 hu
     have hj : j = 0 := by
      have := (List.getElem?_eq_some_iff.1 hc).1
      simp [fl] at this; omega
     subst hj
     have : c = .int .i64 (l.getD i default) := by
      have h0 : some (PV.int .i64 (l.getD i default)) = some c := hc
      injection h0 with h0; exact h0.symm
     subst this
     exact h9
   ·simp only [upd_ne _ _ hqr] at hen
    exact hst.at_ q g en hg hen
 ·have := hR.par q hq
  by_cases hqr : q = r
  ·subst hqr
   simp only at this
   rw [h1] at this
   exact this.elim
  ·simp only [upd_ne _ _ hqr]; exact this
 ·by_cases hqr : q = r
  ·subst hqr
   simp only [upd_same, Option.some.injEq] at hq
   subst hq
   cases hf
  ·simp only [upd_ne _ _ hqr] at hq
   exact hR.fx q en hq hf
end Pv
end Go.Proofs.YtdcgnfkkklbckaaGreatDoor
/- TOP, THE WALKS: bundles that are made. -/
set_option linter.unusedSimpArgs false
set_option linter.unusedVariables false
namespace Go.Proofs.YtdcgnfkkklbckaaGreatDoor
namespace Pv
def c43L2 : C := (.seq (.reg [⟨some 29, 464, none, .bi false .lss (.t 28) (.t 27)⟩])
 (.seq (.cond (.t 29) .skip (.exit 2))
 (.seq (.block 3 (.drw [⟨some 30, 480, none, .fa 1 (.t 6)⟩,⟨some 31, 496, none, .ld 1 false (.t 30)⟩,⟨some 32, 512, none, .mv (.t 0)⟩,⟨some 33, 528, none, .call (.c (.fn (.func 12) [] [])) [(.t 32), (.c (.int .i64 12))]⟩,⟨some 34, 544, none, .bs 3 1 [(.t 33)]⟩,⟨some 35, 560, none, .app 3 1 8 (.t 31) (.t 34)⟩,⟨some 36, 576, none, .fa 1 (.t 6)⟩,⟨none, 0, none, .st 1 (.t 36) (.t 35)⟩]
  [(0, 2, 30), (0, 3, 30), (0, 4, 30), (1, 2, 31), (1, 3, 31), (1, 4, 31)]))
 (.reg [⟨some 37, 592, none, .bi false .add (.t 28) (.c (.int .i64 1))⟩,⟨some 28, 448, none, .mv (.t 37)⟩]))))
def c43L1 : C := (.seq (.seq (.reg [⟨some 19, 304, none, .mv (.t 5)⟩,⟨some 20, 320, none, .bi false .gtr (.t 19) (.c (.int .i64 0))⟩])
 (.cond (.t 20) .skip (.exit 0)))
 (.seq (.block 1 (.seq (.reg [⟨some 23, 368, none, .mv (.t 0)⟩,⟨some 24, 384, none, .call (.c (.fn (.func 12) [] [])) [(.t 23), (.c (.int .i64 5))]⟩,⟨some 25, 400, none, .bi false .add (.c (.int .i64 1)) (.t 24)⟩,⟨some 26, 416, none, .bd [(.int .i64 0), (.nil 1)] [(0, 1, (.t 25))]⟩,⟨some 6, 96, none, .al [(.int .i64 0), (.nil 1)]⟩,⟨none, 0, none, .st 2 (.t 6) (.t 26)⟩])
 (.seq (.seq (.reg [⟨some 27, 432, none, .mv (.t 4)⟩,⟨some 28, 448, none, .mv (.c (.int .i64 0))⟩])
 (.block 2 (.loop c43L2)))
 (.reg [⟨some 38, 608, none, .fa 1 (.t 3)⟩,⟨some 39, 624, none, .ld 1 false (.t 38)⟩,⟨some 40, 640, none, .ld 2 true (.t 6)⟩,⟨some 41, 656, none, .bs 130 2 [(.t 40)]⟩,⟨some 42, 672, none, .app 130 2 32 (.t 39) (.t 41)⟩,⟨some 43, 688, none, .fa 1 (.t 3)⟩,⟨none, 0, none, .st 1 (.t 43) (.t 42)⟩]))))
 (.reg [⟨some 21, 336, none, .mv (.t 5)⟩,⟨some 22, 352, none, .bi false .sub (.t 21) (.c (.int .i64 1))⟩,⟨some 5, 80, none, .mv (.t 22)⟩])))
def c43 : C := (.seq (.reg [⟨some 2, 32, none, .al [(.int .i64 0), (.nil 2), (.bool false)]⟩])
 (.seq (.reg [⟨some 7, 112, none, .mv (.t 0)⟩,⟨some 8, 128, none, .call (.c (.fn (.func 12) [] [])) [(.t 7), (.c (.int .i64 20))]⟩,⟨some 9, 144, none, .mv (.t 0)⟩,⟨some 10, 160, none, .call (.c (.fn (.func 12) [] [])) [(.t 9), (.c (.int .i64 8))]⟩,⟨some 11, 176, none, .bi false .eql (.t 10) (.c (.int .i64 7))⟩,⟨some 12, 192, none, .bd [(.int .i64 0), (.nil 2), (.bool false)] [(0, 1, (.t 8)), (2, 1, (.t 11))]⟩,⟨some 3, 48, none, .al [(.int .i64 0), (.nil 2), (.bool false)]⟩,⟨none, 0, none, .st 3 (.t 3) (.t 12)⟩])
 (.seq (.reg [⟨some 13, 208, none, .mv (.t 0)⟩,⟨some 14, 224, none, .call (.c (.fn (.func 12) [] [])) [(.t 13), (.c (.int .i64 6))]⟩,⟨some 15, 240, none, .bi false .add (.c (.int .i64 1)) (.t 14)⟩,⟨some 4, 64, none, .mv (.t 15)⟩])
 (.seq (.seq (.reg [⟨some 16, 256, none, .mv (.t 0)⟩,⟨some 17, 272, none, .call (.c (.fn (.func 12) [] [])) [(.t 16), (.c (.int .i64 4))]⟩,⟨some 18, 288, none, .bi false .add (.c (.int .i64 1)) (.t 17)⟩,⟨some 5, 80, none, .mv (.t 18)⟩])
 (.block 0 (.loop c43L1)))
 (.seq (.reg [⟨some 44, 704, none, .ld 3 true (.t 3)⟩,⟨none, 0, none, .st 3 (.t 2) (.t 44)⟩])
 .ret)))))
theorem fits43 : fits Tryz.prog false Tryz.f43 1 45 [(2, some (3, true))] = some c43.er := by kernel_rfl
structure Sc where
 w : Int
 f : List Int
instance : Inhabited Sc := ⟨⟨0, []⟩⟩
def eSc (τ : Nat) (s : Sc) : List PV := [.int .i64 s.w, .sl τ 1 s.f.length (fl eInt s.f)]
def flN (s : List Int × Dk) : List Int × Dk := (s.1 ++ [nxt s.2 12], nxtD s.2 12)
def scF (n : Nat) (d : Dk) : Sc × Dk := (⟨1 + nxt d 5, (it flN n ([], nxtD d 5)).1⟩, (it flN n ([], nxtD d 5)).2)
def scN (n : Nat) (s : List Sc × Dk) : List Sc × Dk := (s.1 ++ [(scF n s.2).1], (scF n s.2).2)
def bunE (d : Dk) : Dk := nxtD (nxtD d 20) 8
def bunN (d : Dk) : Nat := (1 + nxt (bunE d) 6).toNat
def bunK (d : Dk) : Nat := (1 + nxt (nxtD (bunE d) 6) 4).toNat
def bunS (d : Dk) : List Sc × Dk := it (scN (bunN d)) (bunK d) ([], nxtD (nxtD (bunE d) 6) 4)
structure ScOK (n : Nat) (s : Sc) : Prop where
 w : 1 ≤ s.w ∧ s.w ≤ 5
 n : s.f.length = n
 f : ∀ i, i < s.f.length → 0 ≤ s.f.getD i default ∧ s.f.getD i default ≤ 11
theorem flI_ok : ∀ (n : Nat) (s : List Int × Dk), (∀ i, i < s.1.length → 0 ≤ s.1.getD i default ∧ s.1.getD i default ≤ 11) →
  (it flN n s).1.length = s.1.length + n ∧ (∀ i, i < (it flN n s).1.length → 0 ≤ (it flN n s).1.getD i default ∧ (it flN n s).1.getD i default ≤ 11) ∧ (it flN n s).2.at_ ≤ s.2.at_ + n
 | 0, s, h => ⟨rfl, h, Nat.le_refl _⟩
 | n + 1, s, h => by
   have r := nxt_lt s.2 (n := 12) (by omega)
   have a := nxtD_at s.2 12
   have ih := flI_ok n (flN s) (getD_pushC (P := fun x => 0 ≤ x ∧ x ≤ 11) (l := s.1) (x := nxt s.2 12) h (by omega))
   have e1 : (flN s).1.length = s.1.length + 1 := by simp [flN]
   have e2 : (flN s).2 = nxtD s.2 12 := rfl
   unfold it
   rw [e1, e2] at ih
   exact ⟨by omega, ih.2.1, by omega⟩
theorem scF_ok (n : Nat) (d : Dk) : ScOK n (scF n d).1 ∧ (scF n d).2.at_ ≤ d.at_ + 1 + n := by
 have r := nxt_lt d (n := 5) (by omega)
 have a := nxtD_at d 5
 have h := flI_ok n ([], nxtD d 5) (fun i hi => absurd hi (Nat.not_lt_zero _))
 unfold scF
 simp only [List.length_nil, Nat.zero_add] at h
 exact ⟨⟨by dsimp only; omega, h.1, h.2.1⟩, by dsimp only; omega⟩
theorem scI_ok (m : Nat) : ∀ (n : Nat) (s : List Sc × Dk), (∀ i, i < s.1.length → ScOK m (s.1.getD i default)) →
  (it (scN m) n s).1.length = s.1.length + n ∧ (∀ i, i < (it (scN m) n s).1.length → ScOK m ((it (scN m) n s).1.getD i default)) ∧ (it (scN m) n s).2.at_ ≤ s.2.at_ + (1 + m) * n
 | 0, s, h => ⟨rfl, h, Nat.le_refl _⟩
 | n + 1, s, h => by
   have h1 := scF_ok m s.2
   have ih := scI_ok m n (scN m s) (getD_pushC h h1.1)
   have e1 : (scN m s).1.length = s.1.length + 1 := by simp [scN]
   have e2 : (scN m s).2 = (scF m s.2).2 := rfl
   unfold it
   rw [e1, e2] at ih
   exact ⟨by omega, ih.2.1, by rw [Nat.mul_add]; omega⟩
theorem bun_ok (d : Dk) : (1 ≤ bunN d ∧ bunN d ≤ 6) ∧ ((bunS d).1.length = bunK d ∧ 1 ≤ bunK d ∧ bunK d ≤ 4) ∧ (∀ i, i < (bunS d).1.length → ScOK (bunN d) ((bunS d).1.getD i default)) ∧ (bunS d).2.at_ ≤ d.at_ + 32 := by
 have a1 := nxtD_at d 20
 have a2 := nxtD_at (nxtD d 20) 8
 have r1 := nxt_lt (bunE d) (n := 6) (by omega)
 have a3 := nxtD_at (bunE d) 6
 have r2 := nxt_lt (nxtD (bunE d) 6) (n := 4) (by omega)
 have a4 := nxtD_at (nxtD (bunE d) 6) 4
 have h := scI_ok (bunN d) (bunK d) ([], nxtD (nxtD (bunE d) 6) 4) (fun i hi => absurd hi (Nat.not_lt_zero _))
 simp only [List.length_nil, Nat.zero_add] at h
 have hN : bunN d ≤ 6 := by unfold bunN; omega
 have hK : bunK d ≤ 4 := by unfold bunK; omega
 have hm : (1 + bunN d) * bunK d ≤ 7 * 4 := Nat.mul_le_mul (by omega) hK
 refine ⟨⟨by unfold bunN; omega, hN⟩, ⟨h.1, by unfold bunK; omega, hK⟩, h.2.1, ?_⟩
 have h3 := h.2.2
 have h4 : (bunE d).at_ ≤ d.at_ + 2 := by unfold bunE; omega
 unfold bunS
 omega
set_option maxRecDepth 100000 in
set_option maxHeartbeats 8000000 in
theorem call43 (d : Dk) (hd : d.at_ ≤ 970000000) : PureCall Tryz.prog 43 [.pt 0 0 0] [.box (eDk 1 d)]
  ⟨.agg [.int .i64 (nxt d 20), .sl 0 2 (bunS d).1.length (fl (eSc 0) (bunS d).1), .bool (nxt (nxtD d 20) 8 == 7)], [.box (eDk 1 (bunS d).2)], []⟩ := by
 refine pure_call mix Tryz.func43 fits43 rfl ?_
 unfold bunS bunN bunK bunE
 conv => whnf
 refine ⟨_, fun _ => call_next 1 d 20 (by omega) (by omega), ?_⟩
 have r1 := nxt_lt d (n := 20) (by omega)
 have a1 := nxtD_at d 20
 generalize nxt d 20 = n1 at r1 ⊢
 generalize nxtD d 20 = e1 at a1 ⊢
 conv => whnf
 refine ⟨_, fun _ => call_next 1 e1 8 (by omega) (by omega), ?_⟩
 have a2 := nxtD_at e1 8
 generalize nxt e1 8 = n2
 generalize nxtD e1 8 = e2 at a2 ⊢
 conv => whnf
 refine ⟨_, fun _ => call_next 1 e2 6 (by omega) (by omega), ?_⟩
 have r3 := nxt_lt e2 (n := 6) (by omega)
 have a3 := nxtD_at e2 6
 obtain ⟨n0, hn0⟩ : ∃ n0 : Nat, (n0 : Int) = 1 + nxt e2 6 := ⟨(1 + nxt e2 6).toNat, by omega⟩
 rw [← hn0, Int.toNat_natCast]
 have hn6 : 1 ≤ n0 ∧ n0 ≤ 6 := by omega
 generalize nxtD e2 6 = e3 at a3 ⊢
 conv => whnf
 refine ⟨_, fun _ => call_next 1 e3 4 (by omega) (by omega), ?_⟩
 have r4 := nxt_lt e3 (n := 4) (by omega)
 have a4 := nxtD_at e3 4
 obtain ⟨k0, hk0⟩ : ∃ k0 : Nat, (k0 : Int) = 1 + nxt e3 4 := ⟨(1 + nxt e3 4).toNat, by omega⟩
 rw [← hk0, Int.toNat_natCast]
 generalize nxtD e3 4 = e4 at a4 ⊢
 obtain ⟨R0, hR0⟩ : ∃ R0, R0 = it (scN n0) k0 ([], e4) := ⟨_, rfl⟩
 rw [← hR0]
 conv => whnf
 refine ⟨?_, ?_⟩
 ·exact g0
 refine LSem.adoptF 48 1 1000000 130 2 2 _ rfl rfl rfl ?_
 refine LSem.loop (n := 45) mix (α := Nat × List Sc × Dk) (fun s => s.1 + s.2.1.length = k0 ∧ it (scN n0) s.1 s.2 = R0 ∧ s.2.2.at_ ≤ 970000010 + 7 * s.2.1.length)
  (fun s => [(0, .pt 0 0 0), (2, .pt 32 0 0), (3, .pt 48 0 0), (4, .int .i64 n0), (5, .int .i64 s.1)])
  (fun s => [(0, .box (eDk 1 s.2.2)), (32, .box [.int .i64 0, .nil 2, .bool false]), (48, .box [.int .i64 n1, .os 1000000, .bool (n2 == 7)]), (1000000, .row 0 130 2 s.2.1.length (fl (eSc 0) s.2.1))]) (fun s => s.1) (k0, [], e4) ?_ ?_ ?_
 ·exact ⟨rfl, hR0.symm, by dsimp only; omega⟩
 ·refine ⟨rfl, rfl, ?_, ?_⟩
  all_goals repeat' (first | exact True.intro | refine leF_cons rfl ?_ ?_ | refine leS_cons rfl ?_ ?_ | (show PLe _ _ _ _; conv => whnf) | (show SLe _ _ _ _; conv => whnf) | (show PLeL _ _ _ _; conv => whnf) | apply And.intro | rfl | exact Nat.le_refl _ | exact fun _ _ => rfl | exact rowEq0 _ _)
  all_goals first | omega | (dsimp only; omega) | skip
 ·intro s hs
  obtain ⟨m, l, e⟩ := s
  obtain ⟨k1, k2, k3⟩ := hs
  dsimp only at k1 k2 k3
  conv => whnf
  refine ⟨trivial, fun hc => ?_, fun hc => ?_⟩
  ·replace hc := of_decide_eq_true hc
   obtain ⟨m, rfl⟩ : ∃ m', m = m' + 1 := ⟨m - 1, by
    have h : (0 : Int) < m := hc
    omega⟩
   have hst : it (scN n0) m (l ++ [(scF n0 e).1], (scF n0 e).2) = R0 := k2
   have hsc := scF_ok n0 e
   conv => whnf
   refine ⟨_, fun _ => call_next 1 e 5 (by omega) (by omega), ?_⟩
   have r5 := nxt_lt e (n := 5) (by omega)
   have a5 := nxtD_at e 5
   unfold scF at hst hsc
   generalize nxt e 5 = w5 at r5 hst hsc ⊢
   generalize nxtD e 5 = e5 at a5 hst hsc ⊢
   obtain ⟨Q0, hQ0⟩ : ∃ Q0, Q0 = it flN n0 ([], e5) := ⟨_, rfl⟩
   rw [← hQ0] at hst hsc
   conv => whnf
   refine ⟨?_, ?_⟩
   ·exact g0
   refine LSem.adoptF 96 1 1000001 3 1 1 _ rfl rfl rfl ?_
   refine LSem.loop (n := 45) mix (α := Nat × List Int × Dk) (fun s => s.1 ≤ n0 ∧ s.2.1.length = s.1 ∧ it flN (n0 - s.1) s.2 = Q0 ∧ s.2.2.at_ ≤ e5.at_ + s.1)
    (fun s => [(0, .pt 0 0 0), (2, .pt 32 0 0), (3, .pt 48 0 0), (4, .int .i64 n0), (5, .int .i64 ((m + 1 : Nat) : Int)), (6, .pt 96 0 0), (27, .int .i64 n0), (28, .int .i64 s.1)])
    (fun s => [(0, .box (eDk 1 s.2.2)), (32, .box [.int .i64 0, .nil 2, .bool false]), (48, .box [.int .i64 n1, .os 1000000, .bool (n2 == 7)]), (1000000, .row 0 130 2 l.length (fl (eSc 0) l)), (96, .box [.int .i64 (1 + w5), .os 1000001]), (1000001, .row 0 3 1 s.2.1.length (fl eInt s.2.1))])
    (fun s => n0 - s.1) (0, [], e5) ?_ ?_ ?_
   ·exact ⟨Nat.zero_le _, rfl, hQ0.symm, by dsimp only; omega⟩
   ·refine ⟨rfl, rfl, ?_, ?_⟩
    all_goals repeat' (first | exact True.intro | refine leF_cons rfl ?_ ?_ | refine leS_cons rfl ?_ ?_ | (show PLe _ _ _ _; conv => whnf) | (show SLe _ _ _ _; conv => whnf) | (show PLeL _ _ _ _; conv => whnf) | apply And.intro | rfl | exact Nat.le_refl _ | exact fun _ _ => rfl | exact rowEq0 _ _)
    all_goals first | omega | (dsimp only; omega) | skip
   ·rintro ⟨i, fs, g⟩ ⟨j1, j2, j3, j4⟩
    dsimp only at j1 j2 j3 j4 ⊢
    conv => whnf
    refine ⟨trivial, fun hc2 => ?_, fun hc2 => ?_⟩
    ·replace hc2 := of_decide_eq_true hc2
     have hlt : i < n0 := by omega
     have hst2 : it flN (n0 - (i + 1)) (fs ++ [nxt g 12], nxtD g 12) = Q0 := by
      rw [← j3, show n0 - i = (n0 - (i + 1)) + 1 by omega]; rfl
     have a6 := nxtD_at g 12
     have q := fl_push eInt fs (nxt g 12)
     have hxl : (fs ++ [nxt g 12]).length = fs.length + 1 := by simp
     conv => whnf
     refine ⟨_, fun _ => call_next 1 g 12 (by omega) (by omega), ?_⟩
     conv => whnf
     refine ⟨rfl, ?_⟩
     conv => whnf
     refine ⟨?_, (i + 1, fs ++ [nxt g 12], nxtD g 12), ⟨by dsimp only; omega, by dsimp only; rw [hxl]; omega, hst2, by dsimp only; omega⟩, by dsimp only; omega, rfl, rfl, ?_, ?_⟩
     ·exact g0
     all_goals repeat' (first | exact True.intro | refine leF_cons rfl ?_ ?_ | refine leS_cons rfl ?_ ?_ | (show PLe _ _ _ _; conv => whnf) | (show SLe _ _ _ _; conv => whnf) | (show PLeL _ _ _ _; conv => whnf) | apply And.intro | rfl | exact Nat.le_refl _ | exact fun _ _ => rfl | exact rowEq0 _ _)
     all_goals first | exact q | (dsimp only; rw [hxl]; rfl) | (dsimp only; rw [hxl]; done) | (dsimp only; omega) | omega | skip
    ·replace hc2 := of_decide_eq_false hc2
     have : i = n0 := by omega
     subst this
     have hp : (fs, g) = Q0 := by rw [← j3, Nat.sub_self]; rfl
     subst hp
     have q := fl_push (eSc 0) l ⟨1 + w5, fs⟩
     have hxl : (l ++ [(⟨1 + w5, fs⟩ : Sc)]).length = l.length + 1 := by simp
     conv => whnf
     refine ⟨?_, (m, l ++ [⟨1 + w5, fs⟩], g), ⟨?_, hst, ?_⟩, ?_, rfl, rfl, ?_, ?_⟩
     ·exact g0
     ·dsimp only; rw [hxl]; omega
     ·dsimp only; rw [hxl]; omega
     ·dsimp only; omega
     all_goals repeat' (first | exact True.intro | refine leF_cons rfl ?_ ?_ | refine leS_cons rfl ?_ ?_ | (show PLe _ _ _ _; conv => whnf) | (show SLe _ _ _ _; conv => whnf) | (show PLeL _ _ _ _; conv => whnf) | apply And.intro | rfl | exact Nat.le_refl _ | exact fun _ _ => rfl | exact rowEq0 _ _)
     all_goals first | exact q | (dsimp only; rw [hxl]; rfl) | (dsimp only; rw [hxl]; done) | (dsimp only; omega) | omega | skip
  ·replace hc := of_decide_eq_false hc
   have h0 : m = 0 := by
    have h : ¬ (0 : Int) < m := hc
    omega
   subst h0
   have hp : (l, e) = R0 := k2
   rw [← hp]
   conv => whnf
   refine ⟨?_, [], ?_⟩
   ·exact g0
   conv => whnf
   refine ⟨rfl, ?_, ?_, trivial⟩
   all_goals repeat' (first | exact True.intro | refine leF_cons rfl ?_ ?_ | refine leS_cons rfl ?_ ?_ | (show PLe _ _ _ _; conv => whnf) | (show SLe _ _ _ _; conv => whnf) | (show PLeL _ _ _ _; conv => whnf) | apply And.intro | rfl | exact Nat.le_refl _ | exact fun _ _ => rfl | exact rowEq0 _ _)
end Pv
end Go.Proofs.YtdcgnfkkklbckaaGreatDoor
/- TOP, THE WALKS: bundles are looked at. -/
set_option linter.unusedSimpArgs false
set_option linter.unusedVariables false
namespace Go.Proofs.YtdcgnfkkklbckaaGreatDoor
namespace Pv
def c270 : C := (.seq (.reg [⟨some 2, 32, none, .mv (.c (.bool false))⟩])
 (.seq (.reg [⟨some 3, 48, none, .mv (.t 0)⟩,⟨some 4, 64, none, .call (.c (.fn (.func 56) [] [])) [(.t 3), (.c (.int .i64 1073741824))]⟩,⟨some 5, 80, none, .un false .not (.t 4)⟩,⟨some 2, 32, none, .mv (.t 5)⟩])
 .ret))
theorem fits270 : fits Tryz.prog false Tryz.f270 1 6 [(2, none)] = some c270.er := by kernel_rfl
def c207 : C := (.seq (.reg [⟨some 2, 32, none, .bx 2 (.t 0)⟩,⟨some 4, 64, none, .mv (.c (.int .i64 0))⟩])
 (.seq (.block 0 (.seq (.reg [⟨some 6, 96, none, .fa 0 (.t 2)⟩,⟨some 7, 112, none, .ld 1 false (.t 6)⟩,⟨some 8, 128, none, .bi false .lss (.t 7) (.c (.int .i64 1))⟩,⟨some 9, 144, none, .mv (.t 8)⟩,⟨some 10, 160, (some (9, false)), .fa 0 (.t 2)⟩,⟨some 11, 176, (some (9, false)), .ld 1 false (.t 10)⟩,⟨some 12, 192, (some (9, false)), .bi false .gtr (.t 11) (.c (.int .i64 10000))⟩,⟨some 13, 208, none, .pick (.t 9) (.c (.bool true)) (.t 12)⟩,⟨some 5, 80, none, .mv (.t 13)⟩])
 (.cond (.t 5) (.seq (.reg [⟨some 4, 64, none, .mv (.c (.int .i64 1))⟩])
 .ret) (.seq (.reg [⟨some 15, 240, none, .fa 1 (.t 2)⟩,⟨some 16, 256, none, .ld 1 false (.t 15)⟩,⟨some 17, 272, none, .len (.t 16)⟩,⟨some 18, 288, none, .bi false .eql (.t 17) (.c (.int .i64 0))⟩,⟨some 19, 304, none, .mv (.t 18)⟩,⟨some 20, 320, (some (19, false)), .fa 1 (.t 2)⟩,⟨some 21, 336, (some (19, false)), .ld 1 false (.t 20)⟩,⟨some 22, 352, (some (19, false)), .len (.t 21)⟩,⟨some 23, 368, (some (19, false)), .mv (.t 1)⟩,⟨some 24, 384, (some (19, false)), .bi false .neq (.t 22) (.t 23)⟩,⟨some 25, 400, none, .pick (.t 19) (.c (.bool true)) (.t 24)⟩,⟨some 14, 224, none, .mv (.t 25)⟩])
 (.cond (.t 14) (.seq (.reg [⟨some 4, 64, none, .mv (.c (.int .i64 3))⟩])
 .ret) (.seq (.reg [⟨some 27, 432, none, .mv (.t 1)⟩,⟨some 28, 448, none, .bi false .gtr (.t 27) (.c (.int .i64 1000))⟩,⟨some 26, 416, none, .mv (.t 28)⟩])
 (.cond (.t 26) (.seq (.reg [⟨some 4, 64, none, .mv (.c (.int .i64 10))⟩])
 .ret) (.seq (.reg [⟨some 30, 480, none, .fa 1 (.t 2)⟩,⟨some 31, 496, none, .ld 1 false (.t 30)⟩,⟨some 32, 512, none, .call (.c (.fn (.func 54) [] [])) [(.t 31), (.c (.fn (.func 270) [] []))]⟩,⟨some 29, 464, none, .mv (.t 32)⟩])
 (.cond (.t 29) (.seq (.reg [⟨some 4, 64, none, .mv (.c (.int .i64 1))⟩])
 .ret) .skip)))))))))
 (.seq (.reg [⟨some 4, 64, none, .mv (.c (.int .i64 0))⟩])
 .ret)))
theorem fits207 : fits Tryz.prog false Tryz.f207 2 33 [(4, none)] = some c207.er := by kernel_rfl
def c161L1 : C := (.seq (.reg [⟨some 25, 400, none, .bi false .lss (.t 24) (.t 23)⟩])
 (.seq (.cond (.t 25) .skip (.exit 1))
 (.seq (.block 2 (.seq (.reg [⟨some 26, 416, none, .ia 2 (.t 22) (.t 24)⟩,⟨some 27, 432, none, .ld 2 true (.t 26)⟩,⟨some 4, 64, none, .al [(.int .i64 0), (.nil 1)]⟩,⟨none, 0, none, .st 2 (.t 4) (.t 27)⟩])
 (.seq (.drw [⟨some 28, 448, none, .ld 2 true (.t 4)⟩,⟨some 29, 464, none, .fa 1 (.t 1)⟩,⟨some 30, 480, none, .ld 1 false (.t 29)⟩,⟨some 31, 496, none, .ia 2 (.t 30) (.c (.int .i64 0))⟩,⟨some 32, 512, none, .fa 1 (.t 31)⟩,⟨some 33, 528, none, .ld 1 false (.t 32)⟩,⟨some 34, 544, none, .len (.t 33)⟩,⟨some 35, 560, none, .call (.c (.fn (.func 207) [] [])) [(.t 28), (.t 34)]⟩,⟨some 5, 80, none, .mv (.t 35)⟩]
  [(0, 1, 28), (0, 2, 28), (0, 3, 28), (0, 4, 28), (0, 5, 28), (0, 6, 28)])
 (.seq (.reg [⟨some 36, 576, none, .mv (.t 5)⟩,⟨some 37, 592, none, .bi false .neq (.t 36) (.c (.int .i64 0))⟩])
 (.cond (.t 37) (.seq (.reg [⟨some 38, 608, none, .mv (.t 5)⟩,⟨some 2, 32, none, .mv (.t 38)⟩])
 .ret) .skip)))))
 (.reg [⟨some 39, 624, none, .bi false .add (.t 24) (.c (.int .i64 1))⟩,⟨some 24, 384, none, .mv (.t 39)⟩]))))
def c161 : C := (.seq (.reg [⟨some 1, 16, none, .bx 3 (.t 0)⟩,⟨some 2, 32, none, .mv (.c (.int .i64 0))⟩])
 (.seq (.block 0 (.seq (.reg [⟨some 7, 112, none, .fa 0 (.t 1)⟩,⟨some 8, 128, none, .ld 1 false (.t 7)⟩,⟨some 9, 144, none, .call (.c (.fn (.func 56) [] [])) [(.t 8), (.c (.int .i64 16777216))]⟩,⟨some 10, 160, none, .un false .not (.t 9)⟩,⟨some 6, 96, none, .mv (.t 10)⟩])
 (.cond (.t 6) (.seq (.reg [⟨some 2, 32, none, .mv (.c (.int .i64 6))⟩])
 .ret) (.seq (.reg [⟨some 12, 192, none, .fa 1 (.t 1)⟩,⟨some 13, 208, none, .ld 1 false (.t 12)⟩,⟨some 14, 224, none, .len (.t 13)⟩,⟨some 15, 240, none, .bi false .eql (.t 14) (.c (.int .i64 0))⟩,⟨some 11, 176, none, .mv (.t 15)⟩])
 (.cond (.t 11) (.seq (.reg [⟨some 2, 32, none, .mv (.c (.int .i64 3))⟩])
 .ret) (.seq (.reg [⟨some 17, 272, none, .fa 1 (.t 1)⟩,⟨some 18, 288, none, .ld 1 false (.t 17)⟩,⟨some 19, 304, none, .len (.t 18)⟩,⟨some 20, 320, none, .bi false .gtr (.t 19) (.c (.int .i64 50))⟩,⟨some 16, 256, none, .mv (.t 20)⟩])
 (.cond (.t 16) (.seq (.reg [⟨some 2, 32, none, .mv (.c (.int .i64 10))⟩])
 .ret) .skip)))))))
 (.seq (.seq (.reg [⟨some 21, 336, none, .fa 1 (.t 1)⟩,⟨some 22, 352, none, .ld 1 false (.t 21)⟩,⟨some 23, 368, none, .len (.t 22)⟩,⟨some 24, 384, none, .mv (.c (.int .i64 0))⟩])
 (.block 1 (.loop c161L1)))
 (.seq (.reg [⟨some 2, 32, none, .mv (.c (.int .i64 0))⟩])
 .ret))))
theorem fits161 : fits Tryz.prog false Tryz.f161 1 40 [(2, none)] = some c161.er := by kernel_rfl
def c103 : C := (.seq (.reg [⟨some 1, 16, none, .bx 3 (.t 0)⟩,⟨some 2, 32, none, .mv (.c (.int .i64 0))⟩])
 (.seq (.seq (.reg [⟨some 4, 64, none, .ld 3 true (.t 1)⟩,⟨some 5, 80, none, .call (.c (.fn (.func 161) [] [])) [(.t 4)]⟩,⟨some 3, 48, none, .mv (.t 5)⟩])
 (.seq (.reg [⟨some 6, 96, none, .mv (.t 3)⟩,⟨some 7, 112, none, .bi false .neq (.t 6) (.c (.int .i64 0))⟩])
 (.cond (.t 7) (.seq (.reg [⟨some 8, 128, none, .mv (.t 3)⟩,⟨some 2, 32, none, .mv (.t 8)⟩])
 .ret) .skip)))
 (.seq (.seq (.reg [⟨some 9, 144, none, .fa 2 (.t 1)⟩,⟨some 10, 160, none, .ld 1 false (.t 9)⟩])
 (.cond (.t 10) (.seq (.reg [⟨some 2, 32, none, .mv (.c (.int .i64 9))⟩])
 .ret) .skip))
 (.seq (.reg [⟨some 2, 32, none, .mv (.c (.int .i64 0))⟩])
 .ret))))
theorem fits103 : fits Tryz.prog false Tryz.f103 1 11 [(2, none)] = some c103.er := by kernel_rfl
def c104 : C := (.seq (.reg [⟨some 2, 32, none, .bx 3 (.t 0)⟩,⟨some 4, 64, none, .mv (.c (.bool false))⟩])
 (.seq (.drw [⟨some 5, 80, none, .mv (.t 1)⟩,⟨some 6, 96, none, .fa 0 (.t 2)⟩,⟨some 7, 112, none, .ld 1 false (.t 6)⟩,⟨some 8, 128, none, .bi false .geq (.t 5) (.t 7)⟩,⟨some 9, 144, none, .mv (.t 8)⟩,⟨some 10, 160, (some (9, true)), .mv (.t 1)⟩,⟨some 11, 176, (some (9, true)), .fa 0 (.t 2)⟩,⟨some 12, 192, (some (9, true)), .ld 1 false (.t 11)⟩,⟨some 13, 208, (some (9, true)), .fa 1 (.t 2)⟩,⟨some 14, 224, (some (9, true)), .ld 1 false (.t 13)⟩,⟨some 15, 240, (some (9, true)), .ia 2 (.t 14) (.c (.int .i64 0))⟩,⟨some 16, 256, (some (9, true)), .fa 1 (.t 15)⟩,⟨some 17, 272, (some (9, true)), .ld 1 false (.t 16)⟩,⟨some 18, 288, (some (9, true)), .len (.t 17)⟩,⟨some 19, 304, (some (9, true)), .bi false .add (.t 12) (.t 18)⟩,⟨some 20, 320, (some (9, true)), .bi false .lss (.t 10) (.t 19)⟩,⟨some 21, 336, none, .pick (.t 9) (.t 20) (.c (.bool false))⟩,⟨some 4, 64, none, .mv (.t 21)⟩]
  [(0, 1, 5), (0, 2, 5), (5, 6, 10), (5, 7, 10), (5, 8, 10), (5, 9, 10), (5, 10, 10), (5, 11, 10), (5, 12, 10), (5, 13, 10), (5, 14, 10), (6, 8, 11), (6, 9, 11), (6, 10, 11), (6, 11, 11), (6, 12, 11), (6, 13, 11), (7, 8, 12), (7, 9, 12), (7, 10, 12), (7, 11, 12), (7, 12, 12), (7, 13, 12)])
 .ret))
theorem fits104 : fits Tryz.prog false Tryz.f104 2 22 [(4, none)] = some c104.er := by kernel_rfl
def c106 : C := (.seq (.reg [⟨some 1, 16, none, .bx 2 (.t 0)⟩,⟨some 2, 32, none, .mv (.c (.bool false))⟩])
 (.seq (.reg [⟨some 2, 32, none, .mv (.c (.bool true))⟩])
 .ret))
theorem fits106 : fits Tryz.prog false Tryz.f106 1 3 [(2, none)] = some c106.er := by kernel_rfl
def c105L1 : C := (.seq (.reg [⟨some 12, 192, none, .bi false .lss (.t 11) (.t 10)⟩])
 (.seq (.cond (.t 12) .skip (.exit 0))
 (.seq (.block 1 (.seq (.reg [⟨some 13, 208, none, .ia 2 (.t 9) (.t 11)⟩,⟨some 14, 224, none, .ld 2 true (.t 13)⟩,⟨some 7, 112, none, .al [(.int .i64 0), (.nil 1)]⟩,⟨none, 0, none, .st 2 (.t 7) (.t 14)⟩])
 (.seq (.reg [⟨some 15, 240, none, .mv (.t 1)⟩,⟨some 16, 256, none, .ld 2 true (.t 7)⟩,⟨some 17, 272, none, .call (.t 15) [(.t 16)]⟩])
 (.cond (.t 17) (.reg [⟨some 18, 288, none, .mv (.t 5)⟩,⟨some 19, 304, none, .fa 0 (.t 7)⟩,⟨some 20, 320, none, .ld 1 false (.t 19)⟩,⟨some 21, 336, none, .bi false .add (.t 18) (.t 20)⟩,⟨some 5, 80, none, .mv (.t 21)⟩]) .skip))))
 (.reg [⟨some 22, 352, none, .bi false .add (.t 11) (.c (.int .i64 1))⟩,⟨some 11, 176, none, .mv (.t 22)⟩]))))
def c105 : C := (.seq (.reg [⟨some 2, 32, none, .bx 3 (.t 0)⟩,⟨some 4, 64, none, .mv (.c (.int .i64 0))⟩])
 (.seq (.reg [⟨some 5, 80, none, .mv (.c (.int .i64 0))⟩])
 (.seq (.seq (.reg [⟨some 8, 128, none, .fa 1 (.t 2)⟩,⟨some 9, 144, none, .ld 1 false (.t 8)⟩,⟨some 10, 160, none, .len (.t 9)⟩,⟨some 11, 176, none, .mv (.c (.int .i64 0))⟩])
 (.block 0 (.loop c105L1)))
 (.seq (.reg [⟨some 23, 368, none, .mv (.t 5)⟩,⟨some 4, 64, none, .mv (.t 23)⟩])
 .ret))))
theorem fits105 : fits Tryz.prog false Tryz.f105 2 24 [(4, none)] = some c105.er := by kernel_rfl
theorem call270 (n : Int) : PureCall Tryz.prog 270 [.int .i64 n] [] ⟨.bool (!wi n 1073741824), [], []⟩ := by
 refine pure_call mix Tryz.func270 fits270 rfl ?_
 conv => whnf
 refine ⟨_, fun _ => call56 n 1073741824, ?_⟩
 conv => whnf
 refine ⟨?_, [], ?_⟩
 ·exact g0
 conv => whnf
 refine ⟨rfl, ?_, trivial, trivial⟩
 all_goals repeat' (first | exact True.intro | refine leF_cons rfl ?_ ?_ | refine leS_cons rfl ?_ ?_ | (show PLe _ _ _ _; conv => whnf) | (show SLe _ _ _ _; conv => whnf) | (show PLeL _ _ _ _; conv => whnf) | apply And.intro | rfl | exact Nat.le_refl _ | exact fun _ _ => rfl | exact rowEq0 _ _)
theorem call122h (ρ : Nat) (l : List Int) (hn : l.length ≤ 4611686018427387904) (hg : ∀ x ∈ l, wi x 1073741824 = true) :
  PureCall Tryz.prog 122 [.sl ρ 1 l.length (fl eInt l), .fn (.func 270) [] []] [] ⟨.int .i64 (-1), [], []⟩ := by
 refine pure_call mix Tryz.func122 fits122 rfl ?_
 conv => whnf
 refine ⟨trivial, ?_⟩
 refine LSem.loop (n := 19) mix (α := Nat) (fun i => i ≤ l.length)
  (fun i => [(0, .sl ρ 1 l.length (fl eInt l)), (1, .fn (.func 270) [] []), (7, .int .i64 l.length), (8, .int .i64 i)])
  (fun i => []) (fun i => l.length - i) 0 ?_ ?_ ?_
 ·exact Nat.zero_le _
 ·refine ⟨rfl, rfl, ?_, ?_⟩
  all_goals repeat' (first | exact True.intro | refine leF_cons rfl ?_ ?_ | refine leS_cons rfl ?_ ?_ | (show PLe _ _ _ _; conv => whnf) | (show SLe _ _ _ _; conv => whnf) | (show PLeL _ _ _ _; conv => whnf) | apply And.intro | rfl | exact Nat.le_refl _ | exact fun _ _ => rfl | exact rowEq0 _ _)
 ·intro i hi
  have hj : ((i : Int)).toNat = i := by omega
  conv => whnf
  refine ⟨trivial, fun hc => ?_, fun hc => ?_⟩
  ·replace hc := of_decide_eq_true hc
   have hlt : i < l.length := by omega
   have hm : l.getD i default ∈ l := by
    rw [List.getD_eq_getElem?_getD, List.getElem?_eq_getElem hlt]; exact List.getElem_mem hlt
   conv => whnf
   refine ⟨_, fun _ => call270 (l.getD ((i : Int)).toNat default), ?_⟩
   rw [hj, hg _ hm]
   conv => whnf
   refine ⟨?_, fun hc2 => (by cases hc2), fun hc2 => ?_⟩
   ·exact g0
   conv => whnf
   refine ⟨?_, i + 1, hlt, ?_, rfl, rfl, ?_, ?_⟩
   ·exact g0
   ·omega
   all_goals repeat' (first | exact True.intro | refine leF_cons rfl ?_ ?_ | refine leS_cons rfl ?_ ?_ | (show PLe _ _ _ _; conv => whnf) | (show SLe _ _ _ _; conv => whnf) | (show PLeL _ _ _ _; conv => whnf) | apply And.intro | rfl | exact Nat.le_refl _ | exact fun _ _ => rfl | exact rowEq0 _ _)
   all_goals omega
  ·replace hc := of_decide_eq_false hc
   conv => whnf
   refine ⟨?_, [], ?_⟩
   ·exact g0
   conv => whnf
   refine ⟨rfl, ?_, trivial, trivial⟩
   all_goals repeat' (first | exact True.intro | refine leF_cons rfl ?_ ?_ | refine leS_cons rfl ?_ ?_ | (show PLe _ _ _ _; conv => whnf) | (show SLe _ _ _ _; conv => whnf) | (show PLeL _ _ _ _; conv => whnf) | apply And.intro | rfl | exact Nat.le_refl _ | exact fun _ _ => rfl | exact rowEq0 _ _)
theorem call54h (ρ : Nat) (l : List Int) (hn : l.length ≤ 4611686018427387904) (hg : ∀ x ∈ l, wi x 1073741824 = true) :
  PureCall Tryz.prog 54 [.sl ρ 1 l.length (fl eInt l), .fn (.func 270) [] []] [] ⟨.bool false, [], []⟩ := by
 refine pure_call mix Tryz.func54 fits54 rfl ?_
 conv => whnf
 refine ⟨_, fun _ => call122h _ l hn hg, ?_⟩
 conv => whnf
 refine ⟨?_, [], ?_⟩
 ·exact g0
 conv => whnf
 refine ⟨rfl, ?_, trivial, trivial⟩
 all_goals repeat' (first | exact True.intro | refine leF_cons rfl ?_ ?_ | refine leS_cons rfl ?_ ?_ | (show PLe _ _ _ _; conv => whnf) | (show SLe _ _ _ _; conv => whnf) | (show PLeL _ _ _ _; conv => whnf) | apply And.intro | rfl | exact Nat.le_refl _ | exact fun _ _ => rfl | exact rowEq0 _ _)
structure ScV (n : Nat) (s : Sc) : Prop where
 w : 1 ≤ s.w ∧ s.w ≤ 10000
 n : s.f.length = n
 f : ∀ x ∈ s.f, wi x 1073741824 = true
theorem call207 (τ n : Nat) (s : Sc) (h : ScV n s) (hn : 1 ≤ n ∧ n ≤ 1000) : PureCall Tryz.prog 207 [.agg (eSc τ s), .int .i64 n] [] ⟨.int .i64 0, [], []⟩ := by
 obtain ⟨⟨hw1, hw2⟩, hl, hf⟩ := h
 refine pure_call mix Tryz.func207 fits207 rfl ?_
 conv => whnf
 refine ⟨?_, fun hc => ?_, fun _ => ?_⟩
 ·exact g0
 ·simp only [bp] at hc
  omega
 conv => whnf
 refine ⟨?_, fun hc => ?_, fun _ => ?_⟩
 ·exact g0
 ·simp only [bp] at hc
  omega
 conv => whnf
 refine ⟨?_, fun hc => ?_, fun _ => ?_⟩
 ·exact g0
 ·simp only [bp] at hc
  omega
 conv => whnf
 refine ⟨_, fun _ => call54h _ s.f (by omega) hf, ?_⟩
 conv => whnf
 refine ⟨?_, fun hc => (by cases hc), fun _ => ?_⟩
 ·exact g0
 conv => whnf
 refine ⟨?_, [], ?_⟩
 ·exact g0
 conv => whnf
 refine ⟨rfl, ?_, trivial, trivial⟩
 all_goals repeat' (first | exact True.intro | refine leF_cons rfl ?_ ?_ | refine leS_cons rfl ?_ ?_ | (show PLe _ _ _ _; conv => whnf) | (show SLe _ _ _ _; conv => whnf) | (show PLeL _ _ _ _; conv => whnf) | apply And.intro | rfl | exact Nat.le_refl _ | exact fun _ _ => rfl | exact rowEq0 _ _)
structure BnV (a : Int) (l : List Sc) (n : Nat) : Prop where
 ha : wi a 16777216 = true
 hl : 1 ≤ l.length ∧ l.length ≤ 50
 hn : 1 ≤ n ∧ n ≤ 1000
 hs : ∀ i, i < l.length → ScV n (l.getD i default)
def eBn (τ : Nat) (a : Int) (l : List Sc) (wd : Bool) : List PV := [.int .i64 a, .sl τ 2 l.length (fl (eSc 0) l), .bool wd]
set_option maxRecDepth 100000 in
set_option maxHeartbeats 4000000 in
theorem call161 (τ n : Nat) (a : Int) (l : List Sc) (wd : Bool) (h : BnV a l n) : PureCall Tryz.prog 161 [.agg (eBn τ a l wd)] [] ⟨.int .i64 0, [], []⟩ := by
 obtain ⟨ha, ⟨hl1, hl2⟩, hn, hs⟩ := h
 have hn0 := (hs 0 (by omega)).n
 refine pure_call mix Tryz.func161 fits161 rfl ?_
 conv => whnf
 refine ⟨_, fun _ => call56 a 16777216, ?_⟩
 rw [ha]
 conv => whnf
 refine ⟨?_, fun hc => (by cases hc), fun _ => ?_⟩
 ·exact g0
 conv => whnf
 refine ⟨?_, fun hc => ?_, fun _ => ?_⟩
 ·exact g0
 ·simp only [bp] at hc
  omega
 conv => whnf
 refine ⟨?_, fun hc => ?_, fun _ => ?_⟩
 ·exact g0
 ·simp only [bp] at hc
  omega
 conv => whnf
 refine ⟨?_, ?_⟩
 ·exact g0
 refine LSem.loop (n := 40) mix (α := Nat) (fun i => i ≤ l.length)
  (fun i => [(1, .pt 16 0 0), (22, .sl τ 2 l.length (fl (eSc 0) l)), (23, .int .i64 l.length), (24, .int .i64 i)])
  (fun i => [(16, .box (eBn τ a l wd))]) (fun i => l.length - i) 0 ?_ ?_ ?_
 ·exact Nat.zero_le _
 ·refine ⟨rfl, rfl, ?_, ?_⟩
  all_goals repeat' (first | exact True.intro | refine leF_cons rfl ?_ ?_ | refine leS_cons rfl ?_ ?_ | (show PLe _ _ _ _; conv => whnf) | (show SLe _ _ _ _; conv => whnf) | (show PLeL _ _ _ _; conv => whnf) | apply And.intro | rfl | exact Nat.le_refl _ | exact fun _ _ => rfl | exact rowEq0 _ _)
 ·intro i hi
  conv => whnf
  refine ⟨trivial, fun hc => ?_, fun hc => ?_⟩
  ·replace hc := of_decide_eq_true hc
   have hlt : i < l.length := by omega
   conv => whnf
   refine ⟨_, fun _ => call207 _ (l.getD 0 default).f.length (l.getD ((i : Int)).toNat default) (by rw [show ((i : Int)).toNat = i by omega, hn0]; exact hs i hlt) (by rw [hn0]; exact hn), ?_⟩
   conv => whnf
   refine ⟨rfl, ?_⟩
   conv => whnf
   refine ⟨?_, fun hc2 => (by cases hc2), fun _ => ?_⟩
   ·exact g0
   conv => whnf
   refine ⟨?_, i + 1, hlt, ?_, rfl, rfl, ?_, ?_⟩
   ·exact g0
   ·omega
   all_goals repeat' (first | exact True.intro | refine leF_cons rfl ?_ ?_ | refine leS_cons rfl ?_ ?_ | (show PLe _ _ _ _; conv => whnf) | (show SLe _ _ _ _; conv => whnf) | (show PLeL _ _ _ _; conv => whnf) | apply And.intro | rfl | exact Nat.le_refl _ | exact fun _ _ => rfl | exact rowEq0 _ _)
   all_goals omega
  ·replace hc := of_decide_eq_false hc
   conv => whnf
   refine ⟨?_, [], ?_⟩
   ·exact g0
   conv => whnf
   refine ⟨rfl, ?_, trivial, trivial⟩
   all_goals repeat' (first | exact True.intro | refine leF_cons rfl ?_ ?_ | refine leS_cons rfl ?_ ?_ | (show PLe _ _ _ _; conv => whnf) | (show SLe _ _ _ _; conv => whnf) | (show PLeL _ _ _ _; conv => whnf) | apply And.intro | rfl | exact Nat.le_refl _ | exact fun _ _ => rfl | exact rowEq0 _ _)
theorem call103 (τ n : Nat) (a : Int) (l : List Sc) (h : BnV a l n) : PureCall Tryz.prog 103 [.agg (eBn τ a l false)] [] ⟨.int .i64 0, [], []⟩ := by
 refine pure_call mix Tryz.func103 fits103 rfl ?_
 conv => whnf
 refine ⟨_, fun _ => call161 _ n a l false h, ?_⟩
 conv => whnf
 refine ⟨?_, fun hc => (by cases hc), fun _ => ?_⟩
 ·exact g0
 conv => whnf
 refine ⟨?_, fun hc => (by cases hc), fun _ => ?_⟩
 ·exact g0
 conv => whnf
 refine ⟨?_, [], ?_⟩
 ·exact g0
 conv => whnf
 refine ⟨rfl, ?_, trivial, trivial⟩
 all_goals repeat' (first | exact True.intro | refine leF_cons rfl ?_ ?_ | refine leS_cons rfl ?_ ?_ | (show PLe _ _ _ _; conv => whnf) | (show SLe _ _ _ _; conv => whnf) | (show PLeL _ _ _ _; conv => whnf) | apply And.intro | rfl | exact Nat.le_refl _ | exact fun _ _ => rfl | exact rowEq0 _ _)
theorem call104 (τ n : Nat) (a t : Int) (l : List Sc) (wd : Bool) (h : BnV a l n) (h1 : a ≤ t) (h2 : t < a + n) : PureCall Tryz.prog 104 [.agg (eBn τ a l wd), .int .i64 t] [] ⟨.bool true, [], []⟩ := by
 obtain ⟨ha, ⟨hl1, hl2⟩, hn, hs⟩ := h
 have ha' := (wi_iff _ _).1 ha
 have hn0 := (hs 0 (by omega)).n
 refine pure_call mix Tryz.func104 fits104 rfl ?_
 conv => whnf
 refine ⟨rfl, ?_⟩
 conv => whnf
 refine ⟨?_, [], ?_⟩
 ·have hin : inR .i64 (a + ((l.getD 0 default).f.length : Int)) := by
   rw [hn0]
   show (-9223372036854775808 : Int) ≤ a + n ∧ a + n ≤ 9223372036854775807
   omega
  repeat' (apply And.intro)
  all_goals first | exact fun _ => hin | exact g0
 conv => whnf
 refine ⟨rfl, ?_, trivial, trivial⟩
 show (bif decide (a ≤ t) then decide (t < a + ((l.getD 0 default).f.length : Int)) else false) = true
 rw [hn0, decide_eq_true h1, decide_eq_true h2]
 rfl
theorem call106 (τ : Nat) (s : Sc) : PureCall Tryz.prog 106 [.agg (eSc τ s)] [] ⟨.bool true, [], []⟩ := by
 refine pure_call mix Tryz.func106 fits106 rfl ?_
 conv => whnf
 refine ⟨?_, [], ?_⟩
 ·exact g0
 conv => whnf
 refine ⟨rfl, ?_, trivial, trivial⟩
 all_goals repeat' (first | exact True.intro | refine leF_cons rfl ?_ ?_ | refine leS_cons rfl ?_ ?_ | (show PLe _ _ _ _; conv => whnf) | (show SLe _ _ _ _; conv => whnf) | (show PLeL _ _ _ _; conv => whnf) | apply And.intro | rfl | exact Nat.le_refl _ | exact fun _ _ => rfl | exact rowEq0 _ _)
def wtS (l : List Sc) (i : Int) : Int := (l.getD i.toNat default).w
def rkS (l : List Sc) (at_ : Nat) (i : Int) : Int := (l.getD i.toNat default).f.getD at_ default
def sumW (l : List Sc) : Nat → Int
 | 0 => 0
 | n + 1 => sumW l n + wtS l n
theorem sumW_rng {l : List Sc} {n : Nat} {a : Int} (h : BnV a l n) : ∀ i, i ≤ l.length → 0 ≤ sumW l i ∧ sumW l i ≤ 10000 * i
 | 0, _ => by simp [sumW]
 | i + 1, hi => by
   have ih := sumW_rng h i (by omega)
   have := (h.hs i (by omega)).w
   have e : wtS l i = (l.getD i default).w := rfl
   unfold sumW
   omega
set_option maxRecDepth 100000 in
set_option maxHeartbeats 4000000 in
theorem call105 (τ n : Nat) (a : Int) (l : List Sc) (wd : Bool) (h : BnV a l n) : PureCall Tryz.prog 105 [.agg (eBn τ a l wd), .fn (.func 106) [] []] [] ⟨.int .i64 (sumW l l.length), [], []⟩ := by
 have hl := h.hl
 refine pure_call mix Tryz.func105 fits105 rfl ?_
 conv => whnf
 refine ⟨?_, ?_⟩
 ·exact g0
 refine LSem.loop (n := 24) mix (α := Nat) (fun i => i ≤ l.length)
  (fun i => [(1, .fn (.func 106) [] []), (5, .int .i64 (sumW l i)), (9, .sl τ 2 l.length (fl (eSc 0) l)), (10, .int .i64 l.length), (11, .int .i64 i)])
  (fun i => []) (fun i => l.length - i) 0 ?_ ?_ ?_
 ·exact Nat.zero_le _
 ·refine ⟨rfl, rfl, ?_, ?_⟩
  all_goals repeat' (first | exact True.intro | refine leF_cons rfl ?_ ?_ | refine leS_cons rfl ?_ ?_ | (show PLe _ _ _ _; conv => whnf) | (show SLe _ _ _ _; conv => whnf) | (show PLeL _ _ _ _; conv => whnf) | apply And.intro | rfl | exact Nat.le_refl _ | exact fun _ _ => rfl | exact rowEq0 _ _)
 ·intro i hi
  conv => whnf
  refine ⟨trivial, fun hc => ?_, fun hc => ?_⟩
  ·replace hc := of_decide_eq_true hc
   have hlt : i < l.length := by omega
   have h1 := sumW_rng h i (by omega)
   have h2 := (h.hs i hlt).w
   have e1 : ((i : Int)).toNat = i := by omega
   conv => whnf
   refine ⟨_, fun _ => call106 _ (l.getD ((i : Int)).toNat default), ?_⟩
   rw [e1]
   conv => whnf
   refine ⟨?_, fun _ => ?_, fun hc2 => (by cases hc2)⟩
   ·exact g0
   conv => whnf
   refine ⟨?_, i + 1, hlt, ?_, rfl, rfl, ?_, ?_⟩
   ·exact g0
   ·omega
   all_goals repeat' (first | exact True.intro | refine leF_cons rfl ?_ ?_ | refine leS_cons rfl ?_ ?_ | (show PLe _ _ _ _; conv => whnf) | (show SLe _ _ _ _; conv => whnf) | (show PLeL _ _ _ _; conv => whnf) | apply And.intro | rfl | exact Nat.le_refl _ | exact fun _ _ => rfl | exact rowEq0 _ _)
   all_goals first | omega | skip
  ·replace hc := of_decide_eq_false hc
   have : i = l.length := by omega
   subst this
   conv => whnf
   refine ⟨?_, [], ?_⟩
   ·exact g0
   conv => whnf
   refine ⟨rfl, ?_, trivial, trivial⟩
   all_goals repeat' (first | exact True.intro | refine leF_cons rfl ?_ ?_ | refine leS_cons rfl ?_ ?_ | (show PLe _ _ _ _; conv => whnf) | (show SLe _ _ _ _; conv => whnf) | (show PLeL _ _ _ _; conv => whnf) | apply And.intro | rfl | exact Nat.le_refl _ | exact fun _ _ => rfl | exact rowEq0 _ _)
end Pv
end Go.Proofs.YtdcgnfkkklbckaaGreatDoor
/- ARGUMENTS THAT SAY THE SAME: rows within rows. -/
set_option linter.unusedSimpArgs false
set_option linter.unusedVariables false
namespace Go.Proofs.YtdcgnfkkklbckaaGreatDoor
namespace Pv
open Go.RowKit
theorem PureCall.arg_sem {P : Program} {f : FuncId} {args args' : List PV} {bs : List SE} {c : CallRes} (h : PureCall P f args' bs c) (hs : ∀ (X : Cx) (γ : Gh) (w : World) (vals : List Value), RepL X γ w args vals → RepL X γ w args' vals) : PureCall P f args bs c :=
 ⟨h.1, fun w γ as_ ls vals hst hX ha => h.2 w γ as_ ls vals hst hX (hs _ _ _ _ ha)⟩
theorem Rep.sl_congr {X : Cx} {γ : Gh} {w : World} {τ z n : Nat} {f f' : Nat → List PV} {v : Value} (h : Rep X γ w (.sl τ z n f) v) (hl : ∀ i, i < n → (f' i).length = z) (hfl : ∀ i, i < n → ∀ c ∈ f' i, c.flat = true)
  (hc : ∀ (i j : Nat) (c' : PV), i < n → (f' i)[j]? = some c' → ∃ c, (f i)[j]? = some c ∧ ∀ u, Rep X γ w (c.mark τ) u → Rep X γ w (c'.mark τ) u) : Rep X γ w (.sl τ z n f') v := by
 cases h with
 | sl _ _ _ _ ad cap vs hcap hz hf hb h =>
   refine .sl τ z n f' ad cap vs hcap hl hfl hb fun i j c' hi hj => ?_
   obtain ⟨c, h1, h2⟩ := hc i j c' hi hj
   exact h2 _ (h i j c hi h1)
theorem Rep.sl_row {X : Cx} {γ : Gh} {w : World} {τ z n : Nat} {f f' : Nat → List PV} {v : Value} (h : Rep X γ w (.sl τ z n f) v) (he : RowEq n f f') : Rep X γ w (.sl τ z n f') v := by
 cases h with
 | sl _ _ _ _ ad cap vs hcap hz hf hb h =>
   exact .sl τ z n f' ad cap vs hcap (fun i hi => by rw [← he i hi]; exact hz i hi) (fun i hi => by rw [← he i hi]; exact hf i hi) hb fun i j c hi hj => h i j c hi (by rw [he i hi]; exact hj)
theorem Rep.sl_nest {X : Cx} {γ : Gh} {w : World} {τ n : Nat} {f f' : Nat → List PV} {v : Value} (h : Rep X γ w (.sl τ 1 n f) v)
  (hn : ∀ i, i < n → ∃ σ z m g g', f i = [.sl σ z m g] ∧ f' i = [.sl σ z m g'] ∧ RowEq m g g') : Rep X γ w (.sl τ 1 n f') v := by
 refine h.sl_congr (fun i hi => ?_) (fun i hi c hc => ?_) fun i j c' hi hj => ?_
 ·obtain ⟨σ, z, m, g, g', _, e, _⟩ := hn i hi; rw [e]; rfl
 ·obtain ⟨σ, z, m, g, g', _, e, _⟩ := hn i hi
  rw [e, List.mem_singleton] at hc; subst hc; rfl
 ·obtain ⟨σ, z, m, g, g', e1, e2, e3⟩ := hn i hi
  rw [e2] at hj
  cases j with
  | zero =>
    simp only [List.getElem?_cons_zero, Option.some.injEq] at hj
    subst hj
    refine ⟨.sl σ z m g, by rw [e1]; rfl, fun u hu => ?_⟩
    exact Rep.sl_row hu e3
  | succ j => simp at hj
theorem rowEq2 {f f' : Nat → List PV} (h0 : f 0 = f' 0) (h1 : f 1 = f' 1) : RowEq 2 f f' := fun i hi => by
 match i, hi with
 | 0, _ => exact h0
 | 1, _ => exact h1
end Pv
end Go.Proofs.YtdcgnfkkklbckaaGreatDoor
/- TOP, THE WALKS: scenarios in the order of a flow. -/
set_option linter.unusedSimpArgs false
set_option linter.unusedVariables false
namespace Go.Proofs.YtdcgnfkkklbckaaGreatDoor
namespace Pv
def c108 : C := (.seq (.reg [⟨some 2, 32, none, .bx 2 (.t 0)⟩,⟨some 3, 48, none, .mv (.c (.int .i64 0))⟩])
 (.seq (.reg [⟨some 4, 64, none, .fa 1 (.t 2)⟩,⟨some 5, 80, none, .ld 1 false (.t 4)⟩,⟨some 6, 96, none, .ld 1 false (.t 1)⟩,⟨some 7, 112, none, .ia 1 (.t 5) (.t 6)⟩,⟨some 8, 128, none, .ld 1 false (.t 7)⟩,⟨some 3, 48, none, .mv (.t 8)⟩])
 .ret))
theorem fits108 : fits Tryz.prog false Tryz.f108 2 9 [(3, none)] = some c108.er := by kernel_rfl
def c164 : C := (.seq (.reg [⟨some 3, 48, none, .bx 2 (.t 0)⟩,⟨some 4, 64, none, .bx 2 (.t 1)⟩,⟨some 5, 80, none, .mv (.c (.int .i64 0))⟩])
 (.seq (.drw [⟨some 6, 96, none, .ld 1 false (.t 2)⟩,⟨some 7, 112, none, .ld 2 true (.t 3)⟩,⟨some 8, 128, none, .call (.t 6) [(.t 7)]⟩,⟨some 9, 144, none, .ld 1 false (.t 2)⟩,⟨some 10, 160, none, .ld 2 true (.t 4)⟩,⟨some 11, 176, none, .call (.t 9) [(.t 10)]⟩,⟨some 12, 192, none, .call (.c (.fn (.func 165) [] [])) [(.t 8), (.t 11)]⟩,⟨some 5, 80, none, .mv (.t 12)⟩]
  [(0, 1, 6), (0, 3, 6), (0, 4, 6), (1, 3, 7), (1, 4, 7), (2, 3, 8), (2, 4, 8), (3, 4, 9)])
 .ret))
theorem fits164 : fits Tryz.prog false Tryz.f164 3 13 [(5, none)] = some c164.er := by kernel_rfl
def c271L2 : C := (.seq (.seq (.drw [⟨some 18, 288, none, .mv (.t 9)⟩,⟨some 19, 304, none, .mv (.t 1)⟩,⟨some 20, 320, none, .bi false .gtr (.t 18) (.t 19)⟩,⟨some 21, 336, none, .mv (.t 20)⟩,⟨some 22, 352, (some (21, true)), .mv (.t 3)⟩,⟨some 23, 368, (some (21, true)), .mv (.t 0)⟩,⟨some 24, 384, (some (21, true)), .mv (.t 9)⟩,⟨some 25, 400, (some (21, true)), .ia 2 (.t 23) (.t 24)⟩,⟨some 26, 416, (some (21, true)), .ld 2 true (.t 25)⟩,⟨some 27, 432, (some (21, true)), .mv (.t 0)⟩,⟨some 28, 448, (some (21, true)), .mv (.t 9)⟩,⟨some 29, 464, (some (21, true)), .bi false .sub (.t 28) (.c (.int .i64 1))⟩,⟨some 30, 480, (some (21, true)), .ia 2 (.t 27) (.t 29)⟩,⟨some 31, 496, (some (21, true)), .ld 2 true (.t 30)⟩,⟨some 32, 512, (some (21, true)), .call (.t 22) [(.t 26), (.t 31)]⟩,⟨some 33, 528, (some (21, true)), .bi false .lss (.t 32) (.c (.int .i64 0))⟩,⟨some 34, 544, none, .pick (.t 21) (.t 33) (.c (.bool false))⟩]
  [(0, 1, 18), (4, 5, 22), (4, 6, 22), (4, 7, 22), (4, 8, 22), (4, 9, 22), (4, 10, 22), (4, 11, 22), (4, 12, 22), (4, 13, 22), (5, 6, 23), (5, 9, 23), (5, 10, 23), (5, 11, 23), (5, 12, 23), (5, 13, 23), (6, 9, 24), (6, 10, 24), (6, 11, 24), (6, 12, 24), (6, 13, 24), (7, 9, 25), (7, 10, 25), (7, 11, 25), (7, 12, 25), (7, 13, 25), (8, 9, 26), (8, 10, 26), (8, 11, 26), (8, 12, 26), (8, 13, 26), (9, 10, 27), (9, 11, 27)])
 (.cond (.t 34) .skip (.exit 2)))
 (.seq (.block 3 (.drw [⟨some 37, 592, none, .mv (.t 0)⟩,⟨some 38, 608, none, .mv (.t 9)⟩,⟨some 39, 624, none, .mv (.t 0)⟩,⟨some 40, 640, none, .mv (.t 9)⟩,⟨some 41, 656, none, .bi false .sub (.t 40) (.c (.int .i64 1))⟩,⟨some 42, 672, none, .mv (.t 0)⟩,⟨some 43, 688, none, .mv (.t 9)⟩,⟨some 44, 704, none, .bi false .sub (.t 43) (.c (.int .i64 1))⟩,⟨some 45, 720, none, .ia 2 (.t 42) (.t 44)⟩,⟨some 46, 736, none, .ld 2 true (.t 45)⟩,⟨some 47, 752, none, .mv (.t 0)⟩,⟨some 48, 768, none, .mv (.t 9)⟩,⟨some 49, 784, none, .ia 2 (.t 47) (.t 48)⟩,⟨some 50, 800, none, .ld 2 true (.t 49)⟩,⟨some 51, 816, none, .ia 2 (.t 37) (.t 38)⟩,⟨none, 0, none, .st 2 (.t 51) (.t 46)⟩,⟨some 52, 832, none, .ia 2 (.t 39) (.t 41)⟩,⟨none, 0, none, .st 2 (.t 52) (.t 50)⟩]
  [(0, 1, 37), (0, 2, 37), (0, 3, 37), (0, 4, 37), (0, 5, 37), (0, 6, 37), (0, 7, 37), (0, 8, 37), (0, 9, 37), (0, 10, 37), (0, 11, 37), (0, 12, 37), (0, 13, 37), (1, 2, 38), (1, 3, 38), (1, 4, 38), (1, 5, 38), (1, 6, 38), (1, 7, 38), (1, 8, 38), (1, 9, 38), (1, 10, 38), (1, 11, 38), (1, 12, 38), (1, 13, 38), (2, 3, 39), (2, 4, 39), (2, 5, 39), (2, 6, 39), (2, 7, 39), (2, 8, 39), (2, 9, 39), (2, 10, 39), (2, 11, 39), (2, 12, 39), (2, 13, 39), (2, 14, 39), (2, 15, 39), (3, 5, 40), (3, 6, 40), (3, 7, 40), (3, 8, 40), (3, 9, 40), (3, 10, 40), (3, 11, 40), (3, 12, 40), (3, 13, 40), (3, 14, 40), (3, 15, 40), (4, 5, 41), (4, 6, 41), (4, 7, 41), (4, 8, 41), (4, 9, 41), (4, 10, 41), (4, 11, 41), (4, 12, 41), (4, 13, 41), (4, 14, 41), (4, 15, 41), (5, 6, 42), (5, 7, 42), (5, 10, 42), (5, 11, 42), (5, 12, 42), (5, 13, 42), (6, 10, 43), (6, 11, 43), (6, 12, 43), (6, 13, 43), (7, 10, 44), (7, 11, 44), (7, 12, 44), (7, 13, 44), (8, 10, 45), (8, 11, 45), (8, 12, 45), (8, 13, 45), (9, 10, 46), (9, 11, 46), (9, 12, 46), (9, 13, 46), (10, 11, 47)]))
 (.reg [⟨some 35, 560, none, .mv (.t 9)⟩,⟨some 36, 576, none, .bi false .sub (.t 35) (.c (.int .i64 1))⟩,⟨some 9, 144, none, .mv (.t 36)⟩])))
def c271L1 : C := (.seq (.seq (.reg [⟨some 12, 192, none, .mv (.t 8)⟩,⟨some 13, 208, none, .mv (.t 2)⟩,⟨some 14, 224, none, .bi false .lss (.t 12) (.t 13)⟩])
 (.cond (.t 14) .skip (.exit 0)))
 (.seq (.block 1 (.seq (.reg [⟨some 17, 272, none, .mv (.t 8)⟩,⟨some 9, 144, none, .mv (.t 17)⟩])
 (.block 2 (.loop c271L2))))
 (.reg [⟨some 15, 240, none, .mv (.t 8)⟩,⟨some 16, 256, none, .bi false .add (.t 15) (.c (.int .i64 1))⟩,⟨some 8, 128, none, .mv (.t 16)⟩])))
def c271 : C := (.seq (.reg [⟨some 10, 160, none, .mv (.t 1)⟩,⟨some 11, 176, none, .bi false .add (.t 10) (.c (.int .i64 1))⟩,⟨some 8, 128, none, .mv (.t 11)⟩])
 (.block 0 (.loop c271L1)))
theorem fits271 : fits Tryz.prog false Tryz.f271 4 53 [] = some c271.er := by kernel_rfl
def c208L1 : C := (.seq (.seq (.reg [⟨some 11, 176, none, .mv (.t 8)⟩,⟨some 12, 192, none, .mv (.t 1)⟩,⟨some 13, 208, none, .bi false .leq (.t 11) (.t 12)⟩])
 (.cond (.t 13) .skip (.exit 0)))
 (.block 1 (.seq (.reg [⟨some 14, 224, none, .mv (.t 0)⟩,⟨some 15, 240, none, .mv (.t 7)⟩,⟨some 16, 256, none, .mv (.t 8)⟩,⟨some 17, 272, none, .mv (.t 2)⟩,⟨some 18, 288, none, .call (.c (.fn (.func 271) [] [])) [(.t 14), (.t 15), (.t 16), (.t 17)]⟩])
 (.seq (.reg [⟨some 19, 304, none, .mv (.t 8)⟩,⟨some 7, 112, none, .mv (.t 19)⟩])
 (.reg [⟨some 20, 320, none, .mv (.t 8)⟩,⟨some 21, 336, none, .mv (.t 6)⟩,⟨some 22, 352, none, .bi false .add (.t 20) (.t 21)⟩,⟨some 8, 128, none, .mv (.t 22)⟩])))))
def c208L3 : C := (.seq (.seq (.reg [⟨some 33, 528, none, .mv (.t 8)⟩,⟨some 34, 544, none, .mv (.t 1)⟩,⟨some 35, 560, none, .bi false .leq (.t 33) (.t 34)⟩])
 (.cond (.t 35) .skip (.exit 4)))
 (.block 5 (.seq (.reg [⟨some 36, 576, none, .mv (.t 0)⟩,⟨some 37, 592, none, .mv (.t 7)⟩,⟨some 38, 608, none, .mv (.t 7)⟩,⟨some 39, 624, none, .mv (.t 6)⟩,⟨some 40, 640, none, .bi false .add (.t 38) (.t 39)⟩,⟨some 41, 656, none, .mv (.t 8)⟩,⟨some 42, 672, none, .mv (.t 2)⟩,⟨some 43, 688, none, .call (.c (.fn (.func 272) [] [])) [(.t 36), (.t 37), (.t 40), (.t 41), (.t 42)]⟩])
 (.seq (.reg [⟨some 44, 704, none, .mv (.t 8)⟩,⟨some 7, 112, none, .mv (.t 44)⟩])
 (.reg [⟨some 45, 720, none, .mv (.t 8)⟩,⟨some 46, 736, none, .mv (.t 6)⟩,⟨some 47, 752, none, .bi false .mul (.c (.int .i64 2)) (.t 46)⟩,⟨some 48, 768, none, .bi false .add (.t 45) (.t 47)⟩,⟨some 8, 128, none, .mv (.t 48)⟩])))))
def c208L2 : C := (.seq (.seq (.reg [⟨some 28, 448, none, .mv (.t 6)⟩,⟨some 29, 464, none, .mv (.t 1)⟩,⟨some 30, 480, none, .bi false .lss (.t 28) (.t 29)⟩])
 (.cond (.t 30) .skip (.exit 2)))
 (.block 3 (.seq (.reg [⟨some 31, 496, none, .mv (.t 6)⟩,⟨some 32, 512, none, .bi false .mul (.c (.int .i64 2)) (.t 31)⟩,⟨some 7, 112, none, .mv (.c (.int .i64 0))⟩,⟨some 8, 128, none, .mv (.t 32)⟩])
 (.seq (.block 4 (.loop c208L3))
 (.seq (.seq (.reg [⟨some 49, 784, none, .mv (.t 7)⟩,⟨some 50, 800, none, .mv (.t 6)⟩,⟨some 51, 816, none, .bi false .add (.t 49) (.t 50)⟩,⟨some 9, 144, none, .mv (.t 51)⟩])
 (.seq (.reg [⟨some 52, 832, none, .mv (.t 9)⟩,⟨some 53, 848, none, .mv (.t 1)⟩,⟨some 54, 864, none, .bi false .lss (.t 52) (.t 53)⟩])
 (.cond (.t 54) (.reg [⟨some 55, 880, none, .mv (.t 0)⟩,⟨some 56, 896, none, .mv (.t 7)⟩,⟨some 57, 912, none, .mv (.t 9)⟩,⟨some 58, 928, none, .mv (.t 1)⟩,⟨some 59, 944, none, .mv (.t 2)⟩,⟨some 60, 960, none, .call (.c (.fn (.func 272) [] [])) [(.t 55), (.t 56), (.t 57), (.t 58), (.t 59)]⟩]) .skip)))
 (.reg [⟨some 61, 976, none, .mv (.t 6)⟩,⟨some 62, 992, none, .bi false .mul (.t 61) (.c (.int .i64 2))⟩,⟨some 6, 96, none, .mv (.t 62)⟩]))))))
def c208 : C := (.seq (.reg [⟨some 6, 96, none, .mv (.c (.int .i64 20))⟩])
 (.seq (.reg [⟨some 10, 160, none, .mv (.t 6)⟩,⟨some 7, 112, none, .mv (.c (.int .i64 0))⟩,⟨some 8, 128, none, .mv (.t 10)⟩])
 (.seq (.block 0 (.loop c208L1))
 (.seq (.reg [⟨some 23, 368, none, .mv (.t 0)⟩,⟨some 24, 384, none, .mv (.t 7)⟩,⟨some 25, 400, none, .mv (.t 1)⟩,⟨some 26, 416, none, .mv (.t 2)⟩,⟨some 27, 432, none, .call (.c (.fn (.func 271) [] [])) [(.t 23), (.t 24), (.t 25), (.t 26)]⟩])
 (.block 2 (.loop c208L2))))))
theorem fits208 : fits Tryz.prog false Tryz.f208 3 63 [] = some c208.er := by kernel_rfl
def c163 : C := (.reg [⟨some 4, 64, none, .mv (.t 0)⟩,⟨some 5, 80, none, .mv (.t 0)⟩,⟨some 6, 96, none, .len (.t 5)⟩,⟨some 7, 112, none, .mv (.t 1)⟩,⟨some 8, 128, none, .call (.c (.fn (.func 208) [] [])) [(.t 4), (.t 6), (.t 7)]⟩])
theorem fits163 : fits Tryz.prog false Tryz.f163 2 9 [] = some c163.er := by kernel_rfl
def c162 : C := (.seq (.reg [⟨some 2, 32, none, .mv (.c (.nil 2))⟩])
 (.seq (.seq (.reg [⟨some 3, 48, none, .mv (.t 0)⟩,⟨some 4, 64, none, .isn false (.t 3)⟩])
 (.cond (.t 4) (.seq (.reg [⟨some 2, 32, none, .mv (.c (.nil 2))⟩])
 .ret) .skip))
 (.seq (.reg [⟨some 5, 80, none, .bs 130 2 []⟩,⟨some 6, 96, none, .mv (.t 0)⟩,⟨some 7, 112, none, .app 130 2 32 (.t 5) (.t 6)⟩,⟨some 2, 32, none, .mv (.t 7)⟩])
 .ret)))
theorem fits162 : fits Tryz.prog false Tryz.f162 1 8 [(2, none)] = some c162.er := by kernel_rfl
def c107 : C := (.seq (.reg [⟨some 3, 48, none, .bx 1 (.t 1)⟩,⟨some 4, 64, none, .mv (.c (.nil 2))⟩])
 (.seq (.reg [⟨some 5, 80, none, .mv (.t 0)⟩,⟨some 6, 96, none, .call (.c (.fn (.func 162) [] [])) [(.t 5)]⟩,⟨some 0, 0, none, .mv (.t 6)⟩])
 (.cut (.seq (.reg [⟨some 7, 112, none, .mv (.t 0)⟩,⟨some 8, 128, none, .mf (.func 164) [] [(.t 3)]⟩,⟨some 9, 144, none, .call (.c (.fn (.func 163) [] [])) [(.t 7), (.t 8)]⟩])
 (.seq (.reg [⟨some 10, 160, none, .mv (.t 0)⟩,⟨some 4, 64, none, .mv (.t 10)⟩])
 .ret)))))
theorem fits107 : fits Tryz.prog false Tryz.f107 2 11 [(4, none)] = some c107.er := by kernel_rfl
theorem call108 (σ τ at_ : Nat) (s : Sc) (h : at_ < s.f.length) : PureCall Tryz.prog 108 [.agg (eSc τ s), .rp σ [.int .i64 at_]] [] ⟨.int .i64 (s.f.getD at_ default), [], []⟩ := by
 refine pure_call mix Tryz.func108 fits108 rfl ?_
 conv => whnf
 refine ⟨?_, [], ?_⟩
 ·exact g0
 conv => whnf
 refine ⟨rfl, ?_, trivial, trivial⟩
 all_goals repeat' (first | exact True.intro | refine leF_cons rfl ?_ ?_ | refine leS_cons rfl ?_ ?_ | (show PLe _ _ _ _; conv => whnf) | (show SLe _ _ _ _; conv => whnf) | (show PLeL _ _ _ _; conv => whnf) | apply And.intro | rfl | exact Nat.le_refl _ | exact fun _ _ => rfl | exact rowEq0 _ _)
theorem call164 (σ σ' τ τ' at_ : Nat) (a b : Sc) (ha : at_ < a.f.length) (hb : at_ < b.f.length) :
  PureCall Tryz.prog 164 [.agg (eSc τ a), .agg (eSc τ' b), .rp σ [.fn (.func 108) [] [.rp σ' [.int .i64 at_]]]] [] ⟨.int .i64 (cmpI (a.f.getD at_ default) (b.f.getD at_ default)), [], []⟩ := by
 refine pure_call mix Tryz.func164 fits164 rfl ?_
 conv => whnf
 refine ⟨_, fun _ => call108 _ _ at_ a ha, ?_⟩
 conv => whnf
 refine ⟨_, fun _ => call108 _ _ at_ b hb, ?_⟩
 conv => whnf
 refine ⟨_, fun _ => call165 _ _, ?_⟩
 conv => whnf
 refine ⟨rfl, ?_⟩
 conv => whnf
 refine ⟨?_, [], ?_⟩
 ·exact g0
 conv => whnf
 refine ⟨rfl, ?_, trivial, trivial⟩
 all_goals repeat' (first | exact True.intro | refine leF_cons rfl ?_ ?_ | refine leS_cons rfl ?_ ?_ | (show PLe _ _ _ _; conv => whnf) | (show SLe _ _ _ _; conv => whnf) | (show PLeL _ _ _ _; conv => whnf) | apply And.intro | rfl | exact Nat.le_refl _ | exact fun _ _ => rfl | exact rowEq0 _ _)
def eSG (l : List Sc) (g : Nat → Int) : Nat → List PV := fun k => eSc 2 (l.getD (g k).toNat default)
set_option maxRecDepth 100000 in
set_option maxHeartbeats 4000000 in
theorem call271 (σ σ' at_ : Nat) (l : List Sc) (hl : l.length ≤ 4611686018427387904) (hfl : ∀ i : Int, (0 ≤ i ∧ i < l.length) → at_ < (l.getD i.toNat default).f.length) (n : Nat) (hn : n ≤ 4611686018427387904) (g : Nat → Int) (hg : ∀ k, k < n → 0 ≤ g k ∧ g k < l.length) :
  PureCall Tryz.prog 271 [.os 0, .int .i64 0, .int .i64 n, .fn (.func 164) [] [.rp σ [.fn (.func 108) [] [.rp σ' [.int .i64 at_]]]]] [.row 3 130 2 n (eSG l g)] ⟨.tup [], [.row 2 130 2 n (eSG l (insN (rkS l at_) g n))], []⟩ := by
 refine pure_write mix Tryz.func271 fits271 (.inl rfl) ?_
 conv => whnf
 refine ⟨?_, ?_⟩
 ·exact g0
 refine LSem.loop (n := 53) mix (α := Nat) (fun i => i ≤ n + 1 ∧ 1 ≤ i ∧ (n < i → n = 0))
  (fun i => [(0, .os 0), (1, .int .i64 0), (2, .int .i64 n), (3, .fn (.func 164) [] [.rp σ [.fn (.func 108) [] [.rp σ' [.int .i64 at_]]]]), (8, .int .i64 i)])
  (fun i => [(0, .row 3 130 2 n (eSG l (insN (rkS l at_) g i)))]) (fun i => n + 1 - i) 1 ?_ ?_ ?_
 ·exact ⟨by omega, Nat.le_refl _, fun h => by omega⟩
 ·refine ⟨rfl, rfl, ?_, ?_⟩
  all_goals repeat' (first | exact True.intro | refine leF_cons rfl ?_ ?_ | refine leS_cons rfl ?_ ?_ | (show PLe _ _ _ _; conv => whnf) | (show SLe _ _ _ _; conv => whnf) | (show PLeL _ _ _ _; conv => whnf) | apply And.intro | rfl | exact Nat.le_refl _ | exact fun _ _ => rfl | exact rowEq0 _ _)
 ·intro i hi
  obtain ⟨hi1, hi2, hi3⟩ := hi
  conv => whnf
  refine ⟨trivial, fun hc => ?_, fun hc => ?_⟩
  ·replace hc := of_decide_eq_true hc
   have hlt : i < n := by omega
   conv => whnf
   refine ⟨trivial, ?_⟩
   refine LSem.loop (n := 53) mix (α := Nat × (Nat → Int)) (fun x => x.1 ≤ i ∧ sink (rkS l at_) x.2 x.1 = insN (rkS l at_) g (i + 1) ∧ ∀ k, k < n → 0 ≤ x.2 k ∧ x.2 k < l.length)
    (fun x => [(0, .os 0), (1, .int .i64 0), (2, .int .i64 n), (3, .fn (.func 164) [] [.rp σ [.fn (.func 108) [] [.rp σ' [.int .i64 at_]]]]), (8, .int .i64 i), (9, .int .i64 x.1)])
    (fun x => [(0, .row 3 130 2 n (eSG l x.2))]) (fun x => x.1) (i, insN (rkS l at_) g i) ?_ ?_ ?_
   ·exact ⟨Nat.le_refl _, rfl, insN_in (p := fun x => 0 ≤ x ∧ x < l.length) g hg i (by omega)⟩
   ·refine ⟨rfl, rfl, ?_, ?_⟩
    all_goals repeat' (first | exact True.intro | refine leF_cons rfl ?_ ?_ | refine leS_cons rfl ?_ ?_ | (show PLe _ _ _ _; conv => whnf) | (show SLe _ _ _ _; conv => whnf) | (show PLeL _ _ _ _; conv => whnf) | apply And.intro | rfl | exact Nat.le_refl _ | exact fun _ _ => rfl | exact rowEq0 _ _)
   ·rintro ⟨j, h⟩ ⟨hj, hs, hin⟩
    dsimp only at hj hs hin ⊢
    rcases Nat.eq_zero_or_pos j with h0 | h0
    ·subst h0
     conv => whnf
     refine ⟨⟨.int .i64 0, [], []⟩, fun hg => by simp at hg, ?_⟩
     conv => whnf
     refine ⟨rfl, ?_⟩
     conv => whnf
     refine ⟨?_, fun hc => by simp at hc, fun _ => ?_⟩
     ·exact g0
     conv => whnf
     refine ⟨?_, i + 1, ⟨by omega, by omega, fun h => by omega⟩, by omega, rfl, rfl, ?_, ?_⟩
     ·exact g0
     all_goals repeat' (first | exact True.intro | refine leF_cons rfl ?_ ?_ | refine leS_cons rfl ?_ ?_ | (show PLe _ _ _ _; conv => whnf) | (show SLe _ _ _ _; conv => whnf) | (show PLeL _ _ _ _; conv => whnf) | apply And.intro | rfl | exact Nat.le_refl _ | exact fun _ _ => rfl | exact rowEq0 _ _)
     all_goals (intro k hk; show eSG l h k = eSG l (insN (rkS l at_) g (i + 1)) k; rw [← hs]; rfl)
    obtain ⟨j, rfl⟩ : ∃ j', j = j' + 1 := ⟨j - 1, by omega⟩
    have e1 : ((j + 1 : Nat) : Int).toNat = j + 1 := by omega
    have e2 : (((j + 1 : Nat) : Int) - 1).toNat = j := by omega
    conv => whnf
    refine ⟨_, fun _ => call164 _ _ _ _ at_ (l.getD ((h (((j + 1 : Nat) : Int)).toNat)).toNat default) (l.getD ((h (((j + 1 : Nat) : Int) - 1).toNat)).toNat default) (hfl _ (by rw [e1]; exact hin _ (by omega))) (hfl _ (by rw [e2]; exact hin _ (by omega))), ?_⟩
    rw [e1, e2]
    conv => whnf
    refine ⟨rfl, ?_⟩
    conv => whnf
    refine ⟨?_, fun hc => ?_, fun hc => ?_⟩
    ·exact g0
    ·simp only [bp] at hc
     have hlt2 : (rkS l at_) (h (j + 1)) < (rkS l at_) (h j) := cmpI_lt.1 hc.2
     conv => whnf
     refine ⟨rfl, ?_⟩
     conv => whnf
     refine ⟨?_, (j, swp h j), ⟨by dsimp only; omega, ?_, ?_⟩, Nat.lt_succ_self j, rfl, rfl, ?_, ?_⟩
     ·exact g0
     ·rw [← hs]
      exact (if_pos hlt2).symm
     ·intro k hk
      dsimp only
      unfold swp
      split
      ·exact hin _ (by omega)
      ·split
       ·exact hin _ (by omega)
       ·exact hin _ hk
     all_goals repeat' (first | exact True.intro | refine leF_cons rfl ?_ ?_ | refine leS_cons rfl ?_ ?_ | (show PLe _ _ _ _; conv => whnf) | (show SLe _ _ _ _; conv => whnf) | (show PLeL _ _ _ _; conv => whnf) | apply And.intro | rfl | exact Nat.le_refl _ | exact fun _ _ => rfl | exact rowEq0 _ _)
     all_goals first | (show ((j + 1 : Nat) : Int) - 1 = (j : Int); omega) | skip
     all_goals
      intro k hk
      dsimp only
      rw [e1, e2]
      by_cases hkj : k = j
      ·subst hkj
       rw [if_pos rfl, if_neg (by omega)]
       (simp [eSG, eSc, swp, setAt, PV.cells]; try rfl)
      ·rw [if_neg hkj]
       by_cases hk1 : k = j + 1
       ·subst hk1
        rw [if_pos rfl]
        (simp [eSG, eSc, swp, setAt, PV.cells]; try rfl)
       ·rw [if_neg hk1]
        simp [eSG, eSc, swp, hkj, hk1]
    ·simp only [bp] at hc
     have hge2 : ¬ (rkS l at_) (h (j + 1)) < (rkS l at_) (h j) := by
      intro hh
      rcases hc with hc | hc
      ·exact hc.2 (cmpI_lt.2 hh)
      ·omega
     conv => whnf
     refine ⟨?_, i + 1, ⟨by omega, by omega, fun h => by omega⟩, by omega, rfl, rfl, ?_, ?_⟩
     ·exact g0
     all_goals repeat' (first | exact True.intro | refine leF_cons rfl ?_ ?_ | refine leS_cons rfl ?_ ?_ | (show PLe _ _ _ _; conv => whnf) | (show SLe _ _ _ _; conv => whnf) | (show PLeL _ _ _ _; conv => whnf) | apply And.intro | rfl | exact Nat.le_refl _ | exact fun _ _ => rfl | exact rowEq0 _ _)
     all_goals (intro k hk; show eSG l h k = eSG l (insN (rkS l at_) g (i + 1)) k; rw [← hs]; show _ = eSG l (sink (rkS l at_) h (j + 1)) k; unfold sink; rw [if_neg hge2])
  ·replace hc := of_decide_eq_false hc
   have hge : ¬ (i < n) := by omega
   conv => whnf
   have hrow : RowEq n (eSG l (insN (rkS l at_) g i)) (eSG l (insN (rkS l at_) g n)) := by
    rcases Nat.lt_or_ge n i with h1 | h1
    ·rw [hi3 h1]; exact rowEq0 _ _
    ·have : i = n := by omega
     rw [this]; exact fun _ _ => rfl
   exact ⟨trivial, rfl, rfl, rfl, rfl, hrow⟩
theorem call208 (σ σ' at_ : Nat) (l : List Sc) (hl : l.length ≤ 4611686018427387904) (hfl : ∀ i : Int, (0 ≤ i ∧ i < l.length) → at_ < (l.getD i.toNat default).f.length) (n : Nat) (hn : n < 20) (g : Nat → Int) (hg : ∀ k, k < n → 0 ≤ g k ∧ g k < l.length) :
  PureCall Tryz.prog 208 [.os 0, .int .i64 n, .fn (.func 164) [] [.rp σ [.fn (.func 108) [] [.rp σ' [.int .i64 at_]]]]] [.row 3 130 2 n (eSG l g)] ⟨.tup [], [.row 2 130 2 n (eSG l (insN (rkS l at_) g n))], []⟩ := by
 refine pure_write mix Tryz.func208 fits208 (.inl rfl) ?_
 conv => whnf
 refine ⟨?_, ?_⟩
 ·exact g0
 refine LSem.loop (n := 63) mix (α := Nat) (fun i => True)
  (fun i => [(0, .os 0), (1, .int .i64 n), (2, .fn (.func 164) [] [.rp σ [.fn (.func 108) [] [.rp σ' [.int .i64 at_]]]]), (6, .int .i64 20), (7, .int .i64 0), (8, .int .i64 20)])
  (fun i => [(0, .row 3 130 2 n (eSG l g))]) (fun i => 0) 0 trivial ?_ ?_
 ·refine ⟨rfl, rfl, ?_, ?_⟩
  all_goals repeat' (first | exact True.intro | refine leF_cons rfl ?_ ?_ | refine leS_cons rfl ?_ ?_ | (show PLe _ _ _ _; conv => whnf) | (show SLe _ _ _ _; conv => whnf) | (show PLeL _ _ _ _; conv => whnf) | apply And.intro | rfl | exact Nat.le_refl _ | exact fun _ _ => rfl | exact rowEq0 _ _)
 intro i _
 conv => whnf
 refine ⟨?_, fun hc => ?_, fun hc => ?_⟩
 ·exact g0
 ·simp only [bp] at hc
  omega
 conv => whnf
 refine ⟨_, fun _ => call271 _ _ at_ l hl hfl n (by omega) g hg, ?_⟩
 conv => whnf
 refine ⟨?_, ?_⟩
 ·exact g0
 refine LSem.loop (n := 63) mix (α := Nat) (fun i => True)
  (fun i => [(0, .os 0), (1, .int .i64 n), (6, .int .i64 20)])
  (fun i => [(0, .row 3 130 2 n (eSG l (insN (rkS l at_) g n)))]) (fun i => 0) 0 trivial ?_ ?_
 ·refine ⟨rfl, rfl, ?_, ?_⟩
  all_goals repeat' (first | exact True.intro | refine leF_cons rfl ?_ ?_ | refine leS_cons rfl ?_ ?_ | (show PLe _ _ _ _; conv => whnf) | (show SLe _ _ _ _; conv => whnf) | (show PLeL _ _ _ _; conv => whnf) | apply And.intro | rfl | exact Nat.le_refl _ | exact fun _ _ => rfl | exact rowEq0 _ _)
 intro i _
 conv => whnf
 refine ⟨?_, fun hc => ?_, fun hc => ?_⟩
 ·exact g0
 ·simp only [bp] at hc
  omega
 conv => whnf
 exact ⟨trivial, rfl, rfl, rfl, rfl, fun _ _ => rfl⟩
theorem call163 (σ σ' at_ : Nat) (l : List Sc) (hl : l.length ≤ 4611686018427387904) (hfl : ∀ i : Int, (0 ≤ i ∧ i < l.length) → at_ < (l.getD i.toNat default).f.length) (n : Nat) (hn : n < 20) (g : Nat → Int) (hg : ∀ k, k < n → 0 ≤ g k ∧ g k < l.length) :
  PureCall Tryz.prog 163 [.os 0, .fn (.func 164) [] [.rp σ [.fn (.func 108) [] [.rp σ' [.int .i64 at_]]]]] [.row 3 130 2 n (eSG l g)] ⟨.tup [], [.row 2 130 2 n (eSG l (insN (rkS l at_) g n))], []⟩ := by
 refine pure_write mix Tryz.func163 fits163 (.inl rfl) ?_
 conv => whnf
 refine ⟨_, fun _ => call208 _ _ at_ l hl hfl n hn g hg, ?_⟩
 conv => whnf
 exact ⟨g0 (P := _), rfl, rfl, rfl, rfl, fun _ _ => rfl⟩
theorem call162 (l : List Sc) (h0 : 1 ≤ l.length) (hl : l.length ≤ 1000000) : PureCall Tryz.prog 162 [.sl 2 2 l.length (fl (eSc 2) l)] [] ⟨.os 1000000000, [], [.row 2 130 2 l.length (fl (eSc 2) l)]⟩ := by
 refine pure_call mix Tryz.func162 fits162 rfl ?_
 conv => whnf
 refine ⟨?_, fun hc => (by cases hc), fun _ => ?_⟩
 ·exact g0
 conv => whnf
 refine ⟨?_, [80], ?_⟩
 ·exact g0
 conv => whnf
 refine ⟨rfl, ?_, trivial, ?_⟩
 all_goals repeat' (first | exact True.intro | refine leF_cons rfl ?_ ?_ | refine leS_cons rfl ?_ ?_ | (show PLe _ _ _ _; conv => whnf) | (show SLe _ _ _ _; conv => whnf) | (show PLeL _ _ _ _; conv => whnf) | apply And.intro | rfl | exact Nat.le_refl _ | exact fun _ _ => rfl | exact rowEq0 _ _)
 all_goals first | (simp; done) | skip
theorem call107 (at_ : Nat) (l : List Sc) (h0 : 1 ≤ l.length) (hl : l.length < 20) (hfl : ∀ i : Int, (0 ≤ i ∧ i < l.length) → at_ < (l.getD i.toNat default).f.length) :
  PureCall Tryz.prog 107 [.sl 2 2 l.length (fl (eSc 2) l), .fn (.func 108) [] [.rp 2 [.int .i64 at_]]] [] ⟨.os 1000000000, [], [.row 2 130 2 l.length (eSG l (insN (rkS l at_) (fun k => (k : Int)) l.length))]⟩ := by
 refine pure_call mix Tryz.func107 fits107 rfl ?_
 conv => whnf
 refine ⟨_, fun _ => call162 l h0 (by omega), ?_⟩
 conv => whnf
 refine ⟨?_, ?_⟩
 ·exact g0
 refine LSem.cut (n := 11) mix (fl := [(0, .os 96), (3, .rp 2 [.fn (.func 108) [] [.rp 2 [.int .i64 at_]]])]) (sl := [(96, .row 2 130 2 l.length (fl (eSc 2) l))]) ?_ ?_
 ·refine ⟨rfl, rfl, ?_, ?_⟩
  all_goals repeat' (first | exact True.intro | refine leF_cons rfl ?_ ?_ | refine leS_cons rfl ?_ ?_ | (show PLe _ _ _ _; conv => whnf) | (show SLe _ _ _ _; conv => whnf) | (show PLeL _ _ _ _; conv => whnf) | apply And.intro | rfl | exact Nat.le_refl _ | exact fun _ _ => rfl | exact rowEq0 _ _)
 conv => whnf
 refine ⟨_, fun _ => call163 _ _ at_ l (by omega) hfl l.length hl (fun k => (k : Int)) (fun k hk => by omega), ?_⟩
 conv => whnf
 refine ⟨?_, [96], ?_⟩
 ·exact g0
 conv => whnf
 refine ⟨rfl, ?_, trivial, ?_⟩
 all_goals repeat' (first | exact True.intro | refine leF_cons rfl ?_ ?_ | refine leS_cons rfl ?_ ?_ | (show PLe _ _ _ _; conv => whnf) | (show SLe _ _ _ _; conv => whnf) | (show PLeL _ _ _ _; conv => whnf) | apply And.intro | rfl | exact Nat.le_refl _ | exact fun _ _ => rfl | exact rowEq0 _ _)
end Pv
end Go.Proofs.YtdcgnfkkklbckaaGreatDoor
set_option linter.unusedSimpArgs false
set_option linter.unusedVariables false
namespace Go.Proofs.YtdcgnfkkklbckaaGreatDoor
namespace Pv
theorem sink_sorted {rk : Int → Int} {m : Nat} : ∀ (j : Nat) (g : Nat → Int), j < m → (∀ a b, a < b → b < m → a ≠ j → b ≠ j → rk (g a) ≤ rk (g b)) → (∀ b, j < b → b < m → rk (g j) ≤ rk (g b)) →
  ∀ a b, a < b → b < m → rk (sink rk g j a) ≤ rk (sink rk g j b)
 | 0, g, hj, h1, h2, a, b, hab, hb => by
   show rk (g a) ≤ rk (g b)
   by_cases ha : a = 0
   ·subst ha; exact h2 b hab hb
   ·exact h1 a b hab hb ha (by omega)
 | j + 1, g, hj, h1, h2, a, b, hab, hb => by
   unfold sink
   by_cases hc : rk (g (j + 1)) < rk (g j)
   ·rw [if_pos hc]
    refine sink_sorted j (swp g j) (by omega) (fun a b hab hb ha hb2 => ?_) (fun b hjb hb => ?_) a b hab hb
    ·unfold swp
     rw [if_neg ha, if_neg hb2]
     by_cases e1 : a = j + 1
     ·rw [if_pos e1, if_neg (by omega)]
      exact h1 j b (by omega) hb (by omega) (by omega)
     ·rw [if_neg e1]
      by_cases e2 : b = j + 1
      ·rw [if_pos e2]; exact h1 a j (by omega) (by omega) (by omega) (by omega)
      ·rw [if_neg e2]; exact h1 a b hab hb e1 e2
    ·unfold swp
     rw [if_pos rfl, if_neg (by omega)]
     by_cases e2 : b = j + 1
     ·rw [if_pos e2]; exact Int.le_of_lt hc
     ·rw [if_neg e2]; exact h2 b (by omega) hb
   ·rw [if_neg hc]
    by_cases e1 : a = j + 1
    ·subst e1; exact h2 b hab hb
    ·by_cases e2 : b = j + 1
     ·subst e2
      by_cases e3 : a = j
      ·subst e3; omega
      ·have := h1 a j (by omega) (by omega) e1 (by omega)
       omega
     ·exact h1 a b hab hb e1 e2
theorem insN_sorted (rk : Int → Int) (g : Nat → Int) : ∀ i a b, a < b → b < i → rk (insN rk g i a) ≤ rk (insN rk g i b)
 | 0, a, b, hab, hb => by omega
 | i + 1, a, b, hab, hb => by
   refine sink_sorted i (insN rk g i) (Nat.lt_succ_self i) (fun a b hab hb ha hb2 => ?_) (fun b h1 h2 => by omega) a b hab hb
   exact insN_sorted rk g i a b hab (by omega)
end Pv
end Go.Proofs.YtdcgnfkkklbckaaGreatDoor
