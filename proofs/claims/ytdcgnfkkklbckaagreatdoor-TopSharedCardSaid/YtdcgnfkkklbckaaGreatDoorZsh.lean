/- CALLS THAT WRITE INTO A SLICE OF THE CALLER's OWN (numbers, one cell each): a rule for a region that begins with one. -/
import Derived.Test.YtdcgnfkkklbckaaGreatDoorZsg
import Derived.Test.YtdcgnfkkklbckaaGreatDoorZsf
import Derived.Defers
/- TOP, PLAIN LAW: quantiles, ramps, rights. -/
set_option linter.unusedSimpArgs false
set_option linter.unusedVariables false
namespace Go.Proofs.YtdcgnfkkklbckaaGreatDoor
namespace Pv
def sumN (f : Nat → Int) : Nat → Int
 | 0 => 0
 | n + 1 => sumN f n + f n
theorem sumN_cong {f h : Nat → Int} : ∀ n, (∀ k, k < n → f k = h k) → sumN f n = sumN h n
 | 0, _ => rfl
 | n + 1, e => by unfold sumN; rw [sumN_cong n fun k hk => e k (by omega), e n (by omega)]
theorem sumN_swp (w : Int → Int) (g : Nat → Int) (j : Nat) : ∀ n, j + 1 < n → sumN (fun k => w (swp g j k)) n = sumN (fun k => w (g k)) n
 | 0, h => by omega
 | n + 1, h => by
   by_cases e : n = j + 1
   ·subst e
    unfold sumN
    unfold sumN
    rw [sumN_cong (f := fun k => w (swp g j k)) (h := fun k => w (g k)) j (fun k hk => by unfold swp; rw [if_neg (by omega), if_neg (by omega)])]
    have e1 : swp g j j = g (j + 1) := if_pos rfl
    have e2 : swp g j (j + 1) = g j := by unfold swp; rw [if_neg (by omega), if_pos rfl]
    rw [e1, e2]; omega
   ·unfold sumN
    rw [sumN_swp w g j n (by omega)]
    have : swp g j n = g n := by unfold swp; rw [if_neg (by omega), if_neg (by omega)]
    rw [this]
theorem sumN_sink (w rk : Int → Int) {m : Nat} : ∀ (j : Nat) (g : Nat → Int), j < m → sumN (fun k => w (sink rk g j k)) m = sumN (fun k => w (g k)) m
 | 0, _, _ => rfl
 | j + 1, g, h => by
   unfold sink
   split
   ·rw [sumN_sink w rk j (swp g j) (by omega), sumN_swp w g j m h]
   ·rfl
theorem sumN_insN (w rk : Int → Int) (g : Nat → Int) (m : Nat) : ∀ i, i ≤ m → sumN (fun k => w (insN rk g i k)) m = sumN (fun k => w (g k)) m
 | 0, _ => rfl
 | i + 1, h => by
   have := sumN_sink w rk i (insN rk g i) (m := m) (by omega)
   rw [← sumN_insN w rk g m i (by omega), ← this]
   rfl
theorem sumN_nn {f : Nat → Int} : ∀ n, (∀ k, k < n → 0 ≤ f k) → 0 ≤ sumN f n
 | 0, _ => Int.le_refl _
 | n + 1, h => by
   have := sumN_nn n fun k hk => h k (by omega)
   have := h n (by omega)
   unfold sumN; omega
theorem sumN_up {f : Nat → Int} {m : Nat} (h : ∀ k, k < m → 0 ≤ f k) {a : Nat} : ∀ b, a ≤ b → b ≤ m → sumN f a ≤ sumN f b
 | 0, h1, _ => by
   have : a = 0 := by omega
   subst this; exact Int.le_refl _
 | b + 1, h1, h2 => by
   by_cases e : a = b + 1
   ·subst e; exact Int.le_refl _
   ·have := sumN_up h b (a := a) (by omega) (by omega)
    have := h b (by omega)
    show sumN f a ≤ sumN f b + f b
    omega
theorem sumN_le {f : Nat → Int} {c : Int} : ∀ n, (∀ k, k < n → f k ≤ c) → sumN f n ≤ c * n
 | 0, _ => by simp [sumN]
 | n + 1, h => by
   have := sumN_le n fun k hk => h k (by omega)
   have := h n (by omega)
   unfold sumN
   rw [Int.natCast_add, Int.mul_add]
   omega
theorem least_of (P : Nat → Prop) : ∀ n, P n → ∃ k, k ≤ n ∧ P k ∧ ∀ j, j < k → ¬ P j
 | 0, h => ⟨0, Nat.le_refl _, h, fun j hj => by omega⟩
 | n + 1, h => by
   by_cases h1 : ∃ j, j ≤ n ∧ P j
   ·obtain ⟨j, hj, hp⟩ := h1
    obtain ⟨k, hk, hk2, hk3⟩ := least_of (fun i => P i) j hp
    exact ⟨k, by omega, hk2, hk3⟩
   ·exact ⟨n + 1, Nat.le_refl _, h, fun j hj hp => h1 ⟨j, by omega, hp⟩⟩
termination_by n => n
theorem qua_le {w rk : Int → Int} {g : Nat → Int} {n : Nat} (hn : 0 < n) (hw : ∀ k, k < n → 0 ≤ w (g k)) :
  ∃ a b, a < n ∧ b < n ∧ (sumN (fun k => w (g k)) n ≤ 4 * sumN (fun k => w (insN rk g n k)) (a + 1) ∧ ∀ j, j < a → 4 * sumN (fun k => w (insN rk g n k)) (j + 1) < sumN (fun k => w (g k)) n) ∧
   (sumN (fun k => w (g k)) n ≤ 1 * sumN (fun k => w (insN rk g n k)) (b + 1) ∧ ∀ j, j < b → 1 * sumN (fun k => w (insN rk g n k)) (j + 1) < sumN (fun k => w (g k)) n) ∧
   rk (insN rk g n a) ≤ rk (insN rk g n b) := by
 have hs := sumN_insN w rk g n n (Nat.le_refl _)
 have hw2 : ∀ k, k < n → 0 ≤ w (insN rk g n k) := insN_in (p := fun x => 0 ≤ w x) g hw n (Nat.le_refl _)
 have hnn : ∀ j, j < n → 0 ≤ sumN (fun k => w (insN rk g n k)) (j + 1) := fun j hj => sumN_nn _ fun k hk => hw2 k (by omega)
 have e1 : n - 1 + 1 = n := by omega
 obtain ⟨b, hb, hb1, hb2⟩ := least_of (fun j => sumN (fun k => w (g k)) n ≤ 1 * sumN (fun k => w (insN rk g n k)) (j + 1)) (n - 1) (by rw [e1, hs]; omega)
 obtain ⟨a, ha, ha1, ha2⟩ := least_of (fun j => sumN (fun k => w (g k)) n ≤ 4 * sumN (fun k => w (insN rk g n k)) (j + 1)) b (by have := hnn b (by omega); omega)
 refine ⟨a, b, by omega, by omega, ⟨ha1, fun j hj => by have := ha2 j hj; omega⟩, ⟨hb1, fun j hj => by have := hb2 j hj; omega⟩, ?_⟩
 rcases Nat.lt_or_ge a b with h | h
 ·exact insN_sorted rk g n a b h (by omega)
 ·have : a = b := by omega
  rw [this]; exact Int.le_refl _
theorem towN_up {b t up down : Int} (hup : 0 ≤ up) (hd : 0 ≤ down) (h : b ≤ t) : ∀ n : Nat, towN b t up down n = min (b + up * n) t
 | 0 => by simp only [towN]; omega
 | n + 1 => by
   have ih := towN_up hup hd h n
   have e : up * ((n + 1 : Nat) : Int) = up * n + up := by rw [Int.natCast_add, Int.mul_add]; omega
   have h0 : 0 ≤ up * (n : Int) := Int.mul_nonneg hup (by omega)
   show towF _ _ _ _ = _
   rw [ih, e]
   generalize up * (n : Int) = z at h0 ⊢
   unfold towF
   split
   ·omega
   ·omega
theorem towN_down {b t up down : Int} (hup : 0 ≤ up) (hd : 0 ≤ down) (h : t ≤ b) : ∀ n : Nat, towN b t up down n = max (b - down * n) t
 | 0 => by simp only [towN]; omega
 | n + 1 => by
   have ih := towN_down hup hd h n
   have e : down * ((n + 1 : Nat) : Int) = down * n + down := by rw [Int.natCast_add, Int.mul_add]; omega
   have h0 : 0 ≤ down * (n : Int) := Int.mul_nonneg hd (by omega)
   show towF _ _ _ _ = _
   rw [ih, e]
   generalize down * (n : Int) = z at h0 ⊢
   unfold towF
   split
   ·omega
   ·omega
theorem ramp_iff {b t up down : Int} (n : Nat) (hup : 0 ≤ up) (hd : 0 ≤ down) (ht : 0 ≤ t ∧ t ≤ 1073741824) : towN b t up down n = t ↔ (max (b - down * n) 0 ≤ t ∧ t ≤ min (b + up * n) 1073741824) := by
 have h1 : 0 ≤ up * (n : Int) := Int.mul_nonneg hup (by omega)
 have h2 : 0 ≤ down * (n : Int) := Int.mul_nonneg hd (by omega)
 rcases Int.le_total b t with h | h
 ·rw [towN_up hup hd h]; omega
 ·rw [towN_down hup hd h]; omega
/-! Rights: their order, and what each gets. -/
def rtA (l : List Rt) (i : Int) : Rt := l.getD i.toNat default
def onL (l : List Rt) (day : Int) : Nat → List Int
 | 0 => []
 | n + 1 => if inSp (l.getD n default).f (l.getD n default).u day = true then onL l day n ++ [(n : Int)] else onL l day n
theorem onL_mem {l : List Rt} {day : Int} : ∀ n x, x ∈ onL l day n → 0 ≤ x ∧ x < n
 | 0, x, h => by simp [onL] at h
 | n + 1, x, h => by
   unfold onL at h
   split at h
   ·rcases List.mem_append.1 h with h | h
    ·have := onL_mem n x h; omega
    ·simp at h; omega
   ·have := onL_mem n x h; omega
theorem onL_len {l : List Rt} {day : Int} : ∀ n, (onL l day n).length ≤ n
 | 0 => Nat.le_refl _
 | n + 1 => by
   have := onL_len (l := l) (day := day) n
   unfold onL
   split
   ·simp; omega
   ·omega
def rkR (l : List Rt) (i : Int) : Int := (rtA l i).d * 1000 + i
def ordR (l : List Rt) (day : Int) : List Int :=
 (List.range (onL l day l.length).length).map fun k => insN (rkR l) (fun k => (onL l day l.length).getD k default) (onL l day l.length).length k
theorem ordR_len (l : List Rt) (day : Int) : (ordR l day).length = (onL l day l.length).length := by simp [ordR]
theorem getD_map_range {f : Nat → Int} {n k : Nat} (h : k < n) : ((List.range n).map f).getD k default = f k := by
 rw [List.getD_eq_getElem?_getD, List.getElem?_map, List.getElem?_range h]; rfl
theorem getD_mem_ {α : Type} [Inhabited α] {l : List α} {i : Nat} (h : i < l.length) : l.getD i default ∈ l := by
 rw [List.getD_eq_getElem?_getD, List.getElem?_eq_getElem h]; exact List.getElem_mem h
theorem ordR_in (l : List Rt) (day : Int) : ∀ k, k < (ordR l day).length → 0 ≤ (ordR l day).getD k default ∧ (ordR l day).getD k default < l.length := fun k hk => by
 rw [ordR_len] at hk
 unfold ordR
 rw [getD_map_range hk]
 exact insN_in (p := fun x => 0 ≤ x ∧ x < l.length) _ (fun j hj => onL_mem _ _ (getD_mem_ hj)) _ (Nat.le_refl _) k hk
def runN (l : List Rt) (date : Int) : List Int → Nat
 | [] => 0
 | i :: O => if (rtA l i).d = date then runN l date O + 1 else 0
theorem runN_le (l : List Rt) (date : Int) : ∀ O, runN l date O ≤ O.length
 | [] => Nat.le_refl _
 | i :: O => by
   have := runN_le l date O
   unfold runN
   split
   ·simp; omega
   ·simp
def flwL (l : List Rt) (O : List Int) (n : Nat) : List Int := (List.range n).map fun k => (rtA l (O.getD k default)).w
def shQ (av s : Int) (W : List Int) (k : Nat) : Int := av * W.getD k default / s
def shR (av s : Int) (W : List Int) (i : Int) : Int := -(av * W.getD i.toNat default % s)
def bump (o : Nat → Int) (i : Nat) : Nat → Int := fun k => if k = i then o k + 1 else o k
def bumpN (o g : Nat → Int) : Nat → Nat → Int
 | 0 => o
 | j + 1 => bump (bumpN o g j) (g j).toNat
def sumL (W : List Int) : Int := sumN (fun k => W.getD k default) W.length
def shL (av : Int) (W : List Int) : Int := av - sumN (shQ av (sumL W) W) W.length
def shO (av : Int) (W : List Int) : Nat → Int := insN (shR av (sumL W) W) (fun k => (k : Int)) W.length
def shF (av : Int) (W : List Int) : List Int := (List.range W.length).map (bumpN (shQ av (sumL W) W) (shO av W) (shL av W).toNat)
theorem shF_len (av : Int) (W : List Int) : (shF av W).length = W.length := by simp [shF]
theorem bump_sum (o : Nat → Int) (i : Nat) : ∀ n, i < n → sumN (bump o i) n = sumN o n + 1
 | 0, h => by omega
 | n + 1, h => by
   unfold sumN
   by_cases e : i = n
   ·subst e
    rw [sumN_cong (f := bump o i) (h := o) i fun k hk => if_neg (by omega), show bump o i i = o i + 1 from if_pos rfl]
    omega
   ·rw [bump_sum o i n (by omega), show bump o i n = o n from if_neg (by omega)]
    omega
theorem bumpN_sum {o g : Nat → Int} {n : Nat} : ∀ j, (∀ k, k < j → 0 ≤ g k ∧ g k < n) → sumN (bumpN o g j) n = sumN o n + j
 | 0, _ => by simp [bumpN]
 | j + 1, h => by
   have ih := bumpN_sum (o := o) (g := g) (n := n) j fun k hk => h k (by omega)
   have := h j (by omega)
   unfold bumpN
   rw [bump_sum _ _ n (by omega), ih]
   omega
theorem bumpN_nn {o g : Nat → Int} (ho : ∀ k, 0 ≤ o k) : ∀ j k, 0 ≤ bumpN o g j k
 | 0, k => ho k
 | j + 1, k => by
   have := bumpN_nn (g := g) ho j k
   unfold bumpN bump
   split <;> omega
theorem sh_rest {av s : Int} (hs : 0 < s) (W : List Int) : ∀ n, s * sumN (shQ av s W) n + sumN (fun k => av * W.getD k default % s) n = av * sumN (fun k => W.getD k default) n
 | 0 => by simp [sumN]
 | n + 1 => by
   have ih := sh_rest (av := av) hs W n
   have := Int.mul_ediv_add_emod (av * W.getD n default) s
   unfold sumN
   rw [Int.mul_add, Int.mul_add]
   show s * sumN (shQ av s W) n + s * (av * W.getD n default / s) + _ = _
   omega
theorem shL_in {av : Int} {W : List Int} (hs : 0 < sumL W) : 0 ≤ shL av W ∧ shL av W ≤ W.length := by
 have h1 := sh_rest (av := av) hs W W.length
 have h2 : 0 ≤ sumN (fun k => av * W.getD k default % sumL W) W.length := sumN_nn _ fun k _ => Int.emod_nonneg _ (by omega)
 have h3 : sumN (fun k => av * W.getD k default % sumL W) W.length ≤ sumL W * W.length := sumN_le _ fun k _ => Int.le_of_lt (Int.emod_lt_of_pos _ hs)
 have h4 : sumL W * shL av W = sumN (fun k => av * W.getD k default % sumL W) W.length := by
  unfold shL
  rw [Int.mul_sub, Int.mul_comm (sumL W) av]
  have : av * sumL W = av * sumN (fun k => W.getD k default) W.length := rfl
  omega
 constructor
 ·exact Int.nonneg_of_mul_nonneg_right (by rw [h4]; exact h2) hs
 ·exact Int.le_of_mul_le_mul_left (by rw [h4]; exact h3) hs
theorem shO_in (av : Int) (W : List Int) : ∀ k, k < W.length → 0 ≤ shO av W k ∧ shO av W k < W.length :=
 insN_in (p := fun x => 0 ≤ x ∧ x < W.length) _ (fun k hk => by constructor <;> omega) _ (Nat.le_refl _)
theorem shQ_nn {av s : Int} {W : List Int} (hav : 0 ≤ av) (hW : ∀ k, 0 ≤ W.getD k default) (hs : 0 < s) (k : Nat) : 0 ≤ shQ av s W k := Int.ediv_nonneg (Int.mul_nonneg hav (hW k)) (by omega)
theorem shF_ok {av : Int} {W : List Int} (hav : 0 ≤ av) (hW : ∀ k, 0 ≤ W.getD k default) (hs : 0 < sumL W) :
  sumL (shF av W) = av ∧ ∀ k, 0 ≤ (shF av W).getD k default := by
 have h1 := shL_in (av := av) hs
 have h2 := shO_in av W
 constructor
 ·unfold sumL
  rw [shF_len, sumN_cong (f := fun k => (shF av W).getD k default) (h := bumpN (shQ av (sumL W) W) (shO av W) (shL av W).toNat) _ (fun k hk => by unfold shF; exact getD_map_range hk), bumpN_sum _ fun k hk => h2 k (by omega)]
  unfold shL
  unfold shL at h1
  omega
 ·intro k
  by_cases hk : k < W.length
  ·unfold shF
   rw [getD_map_range hk]
   exact bumpN_nn (shQ_nn hav hW hs) _ _
  ·rw [List.getD_eq_getElem?_getD, List.getElem?_eq_none (by rw [shF_len]; omega)]
   exact Int.le_refl _
def putF (o : Nat → Int) (i : Nat) (v : Int) : Nat → Int := fun k => if k = i then v else o k
def putN (o : Nat → Int) (O F : List Int) : Nat → Nat → Int
 | 0 => o
 | m + 1 => putF (putN o O F m) (O.getD m default).toNat (F.getD m default)
def grp (l : List Rt) (av : Int) (O : List Int) (n : Nat) : List Int := if sumL (flwL l O n) > av then shF av (flwL l O n) else flwL l O n
def runO (l : List Rt) (O : List Int) : Nat := runN l (rtA l (O.getD 0 default)).d O
def alF (l : List Rt) : Nat → (Nat → Int) → Int → List Int → Nat → Int
 | 0, o, _, _ => o
 | f + 1, o, av, O => if O = [] then o else
   alF l f (putN o O (grp l av O (runO l O)) (runO l O)) (av - min (sumL (flwL l O (runO l O))) av) (O.drop (runO l O))
def allotF (l : List Rt) (av day : Int) : Nat → Int := alF l (ordR l day).length (fun _ => 0) av (ordR l day)
theorem flwL_len (l : List Rt) (O : List Int) (n : Nat) : (flwL l O n).length = n := by simp [flwL]
theorem flwL_nn {l : List Rt} (hl : ∀ i, 0 ≤ (rtA l i).w) (O : List Int) (n k : Nat) : 0 ≤ (flwL l O n).getD k default := by
 by_cases hk : k < n
 ·unfold flwL; rw [getD_map_range hk]; exact hl _
 ·rw [List.getD_eq_getElem?_getD, List.getElem?_eq_none (by rw [flwL_len]; omega)]; exact Int.le_refl _
theorem putF_sum {o : Nat → Int} {i : Nat} {v : Int} (h0 : 0 ≤ o i) (hv : 0 ≤ v) : ∀ n, sumN (putF o i v) n ≤ sumN o n + v ∧ (n ≤ i → sumN (putF o i v) n = sumN o n)
 | 0 => ⟨by show (0 : Int) ≤ 0 + v; omega, fun _ => rfl⟩
 | n + 1 => by
   have ih := putF_sum (o := o) (i := i) (v := v) h0 hv n
   unfold sumN
   by_cases e : n = i
   ·subst e
    rw [ih.2 (Nat.le_refl _), show putF o n v n = v from if_pos rfl]
    exact ⟨by omega, fun h => by omega⟩
   ·rw [show putF o i v n = o n from if_neg e]
    exact ⟨by have := ih.1; omega, fun h => by have := ih.2 (by omega); omega⟩
theorem putF_nn {o : Nat → Int} {i : Nat} {v : Int} (ho : ∀ k, 0 ≤ o k) (hv : 0 ≤ v) (k : Nat) : 0 ≤ putF o i v k := by
 unfold putF; split
 ·exact hv
 ·exact ho k
theorem putN_ok {o : Nat → Int} {O F : List Int} (ho : ∀ k, 0 ≤ o k) (hF : ∀ k, 0 ≤ F.getD k default) (n : Nat) : ∀ m, (∀ k, 0 ≤ putN o O F m k) ∧ sumN (putN o O F m) n ≤ sumN o n + sumN (fun k => F.getD k default) m
 | 0 => ⟨ho, by show sumN o n ≤ sumN o n + 0; omega⟩
 | m + 1 => by
   have ih := putN_ok (O := O) ho hF n m
   refine ⟨putF_nn ih.1 (hF m), ?_⟩
   have := (putF_sum (i := (O.getD m default).toNat) (ih.1 _) (hF m) n).1
   have e : sumN (fun k => F.getD k default) (m + 1) = sumN (fun k => F.getD k default) m + F.getD m default := rfl
   have := ih.2
   show sumN (putF _ _ _) n ≤ _
   omega
theorem grp_ok {l : List Rt} (hl : ∀ i, 0 ≤ (rtA l i).w) {av : Int} (hav : 0 ≤ av) (O : List Int) (n : Nat) :
  (grp l av O n).length = n ∧ (∀ k, 0 ≤ (grp l av O n).getD k default) ∧ sumL (grp l av O n) = min (sumL (flwL l O n)) av := by
 unfold grp
 split
 ·rename_i h
  have := shF_ok hav (flwL_nn hl O n) (by omega)
  exact ⟨by rw [shF_len, flwL_len], this.2, by rw [this.1]; omega⟩
 ·exact ⟨flwL_len _ _ _, flwL_nn hl O n, by omega⟩
theorem alF_ok {l : List Rt} (hl : ∀ i, 0 ≤ (rtA l i).w) (n : Nat) : ∀ f (o : Nat → Int) (av : Int) (O : List Int), 0 ≤ av → (∀ k, 0 ≤ o k) →
  (∀ k, 0 ≤ alF l f o av O k) ∧ sumN (alF l f o av O) n ≤ sumN o n + av
 | 0, o, av, O, h1, h2 => ⟨h2, by show sumN o n ≤ _; omega⟩
 | f + 1, o, av, O, h1, h2 => by
   unfold alF
   split
   ·exact ⟨h2, by omega⟩
   ·obtain ⟨g1, g2, g3⟩ := grp_ok hl h1 O (runO l O)
    have hp := putN_ok (O := O) h2 g2 n (runO l O)
    have ih := alF_ok hl n f (putN o O (grp l av O (runO l O)) (runO l O)) (av - min (sumL (flwL l O (runO l O))) av) (O.drop (runO l O)) (by omega) hp.1
    refine ⟨ih.1, ?_⟩
    have h3 : sumN (fun k => (grp l av O (runO l O)).getD k default) (runO l O) = min (sumL (flwL l O (runO l O))) av := by
     rw [← g3]; unfold sumL; rw [g1]
    have := ih.2
    have := hp.2
    omega
theorem allot_sum {l : List Rt} (hl : ∀ i, 0 ≤ (rtA l i).w) {av : Int} (hav : 0 ≤ av) (day : Int) : (∀ k, 0 ≤ allotF l av day k) ∧ sumN (allotF l av day) l.length ≤ av := by
 have h := alF_ok hl l.length (ordR l day).length (fun _ => 0) av (ordR l day) hav (fun _ => Int.le_refl _)
 have h0 : ∀ n, sumN (fun _ => 0) n = 0 := fun n => by
  induction n with
  | zero => rfl
  | succ n ih => unfold sumN; rw [ih]; rfl
 rw [h0] at h
 exact ⟨h.1, by unfold allotF; omega⟩
/-! One more right, younger than all. -/
theorem getD_psh {α : Type} [Inhabited α] (l : List α) (p : α) (i : Nat) : (l ++ [p]).getD i default = if i < l.length then l.getD i default else if i = l.length then p else default := by
 by_cases h : i < l.length
 ·rw [if_pos h, List.getD_eq_getElem?_getD, List.getD_eq_getElem?_getD, List.getElem?_append_left h]
 ·rw [if_neg h]
  by_cases h2 : i = l.length
  ·rw [if_pos h2, h2, List.getD_eq_getElem?_getD, List.getElem?_append_right (Nat.le_refl _)]; simp
  ·rw [if_neg h2, List.getD_eq_getElem?_getD, List.getElem?_eq_none (by simp; omega)]; rfl
theorem push_lt {α : Type} [Inhabited α] {l : List α} {p : α} {i : Nat} (h : i < l.length) : (l ++ [p]).getD i default = l.getD i default := by rw [getD_psh, if_pos h]
theorem push_eq {α : Type} [Inhabited α] {l : List α} {p : α} : (l ++ [p]).getD l.length default = p := by rw [getD_psh, if_neg (by omega), if_pos rfl]
theorem insN_far (rk : Int → Int) (g : Nat → Int) : ∀ i k, i ≤ k → insN rk g i k = g k
 | 0, _, _ => rfl
 | i + 1, k, h => by
   have : ∀ (j : Nat) (g : Nat → Int), j < k → sink rk g j k = g k := fun j => by
    induction j with
    | zero => intro g _; rfl
    | succ j ih =>
      intro g hj
      unfold sink
      split
      ·rw [ih _ (by omega)]
       unfold swp
       rw [if_neg (by omega), if_neg (by omega)]
      ·rfl
   show sink rk (insN rk g i) i k = _
   rw [this i _ (by omega), insN_far rk g i k (by omega)]
theorem sink_cong {rk rk' : Int → Int} {m : Nat} {p : Int → Prop} (hr : ∀ x, p x → rk x = rk' x) : ∀ (j : Nat) (g g' : Nat → Int), j < m → (∀ k, k < m → g k = g' k) → (∀ k, k < m → p (g k)) → ∀ k, k < m → sink rk g j k = sink rk' g' j k
 | 0, g, g', _, he, _, k, hk => he k hk
 | j + 1, g, g', hj, he, hp, k, hk => by
   unfold sink
   rw [← he (j + 1) hj, ← he j (by omega), ← hr _ (hp (j + 1) hj), ← hr _ (hp j (by omega))]
   have hs : ∀ k, k < m → swp g j k = swp g' j k := fun k hk => by
    unfold swp; rw [he (j + 1) hj, he j (by omega), he k hk]
   have hsp : ∀ k, k < m → p (swp g j k) := fun k hk => by
    unfold swp
    split
    ·exact hp _ hj
    ·split
     ·exact hp _ (by omega)
     ·exact hp _ hk
   split
   ·exact sink_cong hr j _ _ (by omega) hs hsp k hk
   ·exact he k hk
theorem insN_cong {rk rk' : Int → Int} {m : Nat} {p : Int → Prop} (hr : ∀ x, p x → rk x = rk' x) {g g' : Nat → Int} (he : ∀ k, k < m → g k = g' k) (hp : ∀ k, k < m → p (g k)) : ∀ i, i ≤ m → ∀ k, k < m → insN rk g i k = insN rk' g' i k
 | 0, _, k, hk => he k hk
 | i + 1, hi, k, hk => sink_cong hr i _ _ (by omega) (fun k hk => insN_cong hr he hp i (by omega) k hk) (insN_in g hp i (by omega)) k hk
theorem insN_last {rk : Int → Int} {g : Nat → Int} {m : Nat} (h : ∀ k, k < m → rk (insN rk g m k) ≤ rk (g m)) : insN rk g (m + 1) = insN rk g m := by
 show sink rk (insN rk g m) m = _
 cases m with
 | zero => rfl
 | succ m =>
   unfold sink
   have := h m (by omega)
   rw [← insN_far rk g (m + 1) (m + 1) (Nat.le_refl _)] at this
   rw [if_neg (by omega)]
theorem rtA_app {l : List Rt} {r : Rt} {i : Int} (h : 0 ≤ i ∧ i < l.length) : rtA (l ++ [r]) i = rtA l i := by
 unfold rtA; rw [getD_psh, if_pos (by omega)]
theorem rtA_new {l : List Rt} {r : Rt} : rtA (l ++ [r]) l.length = r := by
 unfold rtA; rw [getD_psh, if_neg (by omega), if_pos (by omega)]
theorem onL_app {l : List Rt} {r : Rt} {day : Int} : ∀ n, n ≤ l.length → onL (l ++ [r]) day n = onL l day n
 | 0, _ => rfl
 | n + 1, h => by
   unfold onL
   rw [onL_app n (by omega), push_lt (show n < l.length by omega)]
theorem onL_new {l : List Rt} {r : Rt} {day : Int} (hr : inSp r.f r.u day = true) : onL (l ++ [r]) day (l ++ [r]).length = onL l day l.length ++ [(l.length : Int)] := by
 rw [List.length_append, List.length_cons, List.length_nil]
 show (if inSp ((l ++ [r]).getD l.length default).f ((l ++ [r]).getD l.length default).u day = true then _ else _) = _
 rw [push_eq, if_pos hr, onL_app _ (Nat.le_refl _)]
theorem list_ext_getD {a b : List Int} (hl : a.length = b.length) (h : ∀ k, k < a.length → a.getD k default = b.getD k default) : a = b := by
 refine List.ext_getElem hl fun k h1 h2 => ?_
 have := h k h1
 rw [List.getD_eq_getElem?_getD, List.getElem?_eq_getElem h1, List.getD_eq_getElem?_getD, List.getElem?_eq_getElem h2] at this
 exact this
theorem ordR_app {l : List Rt} {r : Rt} {day : Int} (hr : inSp r.f r.u day = true) (hd : ∀ i, 0 ≤ i → i < (l.length : Int) → (rtA l i).d < r.d) : ordR (l ++ [r]) day = ordR l day ++ [(l.length : Int)] := by
 have hA : ∀ k, k < (onL l day l.length).length → 0 ≤ (onL l day l.length).getD k default ∧ (onL l day l.length).getD k default < l.length := fun k hk => onL_mem _ _ (getD_mem_ hk)
 have e1 := onL_new (l := l) hr
 have hrk : ∀ x : Int, (0 ≤ x ∧ x < l.length) → rkR l x = rkR (l ++ [r]) x := fun x hx => by unfold rkR; rw [rtA_app hx]
 have hlast : insN (rkR (l ++ [r])) (fun k => (onL l day l.length ++ [(l.length : Int)]).getD k default) ((onL l day l.length).length + 1) = insN (rkR (l ++ [r])) (fun k => (onL l day l.length ++ [(l.length : Int)]).getD k default) (onL l day l.length).length := by
  refine insN_last fun k hk => ?_
  rw [push_eq]
  have := insN_in (rk := rkR (l ++ [r])) (p := fun x => 0 ≤ x ∧ x < l.length) (n := (onL l day l.length).length) (fun k => (onL l day l.length ++ [(l.length : Int)]).getD k default) (fun j hj => by rw [push_lt hj]; exact hA j hj) (onL l day l.length).length (Nat.le_refl _) k hk
  generalize insN _ _ _ k = x at this ⊢
  show (rtA (l ++ [r]) x).d * 1000 + x ≤ (rtA (l ++ [r]) l.length).d * 1000 + l.length
  rw [rtA_app this, rtA_new]
  have := hd _ this.1 this.2
  omega
 refine list_ext_getD ?_ ?_
 ·rw [ordR_len, e1]; simp [ordR_len]
 ·intro k hk
  rw [ordR_len, e1] at hk
  unfold ordR
  rw [e1, getD_map_range hk, show (onL l day l.length ++ [(l.length : Int)]).length = (onL l day l.length).length + 1 by simp, hlast]
  rw [getD_psh, List.length_map, List.length_range]
  by_cases hk2 : k < (onL l day l.length).length
  ·rw [if_pos hk2, getD_map_range hk2]
   exact (insN_cong hrk (fun j hj => by rw [push_lt hj]) (fun j hj => by exact hA j hj) _ (Nat.le_refl _) k hk2).symm
  ·have : k = (onL l day l.length).length := by simp at hk; omega
   subst this
   rw [if_neg hk2, if_pos rfl, insN_far _ _ _ _ (Nat.le_refl _)]
   rw [push_eq]
theorem runN_app {l : List Rt} {r : Rt} {date : Int} (hn : r.d ≠ date) : ∀ O : List Int, (∀ x ∈ O, 0 ≤ x ∧ x < (l.length : Int)) → runN (l ++ [r]) date (O ++ [(l.length : Int)]) = runN l date O
 | [], _ => by
   show (if (rtA (l ++ [r]) l.length).d = date then _ else _) = 0
   rw [rtA_new, if_neg hn]
 | i :: O, h => by
   have ih := runN_app hn O fun x hx => h x (List.mem_cons_of_mem _ hx)
   show (if (rtA (l ++ [r]) i).d = date then runN (l ++ [r]) date (O ++ [(l.length : Int)]) + 1 else 0) = if (rtA l i).d = date then runN l date O + 1 else 0
   rw [ih, rtA_app (h i (List.mem_cons_self ..))]
theorem flwL_app {l : List Rt} {r : Rt} {O : List Int} (hO : ∀ x ∈ O, 0 ≤ x ∧ x < (l.length : Int)) {n : Nat} (hn : n ≤ O.length) : flwL (l ++ [r]) (O ++ [(l.length : Int)]) n = flwL l O n := by
 refine list_ext_getD (by simp [flwL]) fun k hk => ?_
 rw [flwL_len] at hk
 unfold flwL
 rw [getD_map_range hk, getD_map_range hk, getD_psh, if_pos (by omega), rtA_app (hO _ (getD_mem_ (by omega)))]
theorem putN_app {o o' : Nat → Int} {O F : List Int} {x : Int} {n : Nat} (ho : ∀ k, k < n → o' k = o k) : ∀ m, m ≤ O.length → ∀ k, k < n → putN o' (O ++ [x]) F m k = putN o O F m k
 | 0, _, k, hk => ho k hk
 | m + 1, h, k, hk => by
   unfold putN putF
   rw [push_lt (show m < O.length by omega), putN_app ho m (by omega) k hk]
theorem alF_nil (l : List Rt) (f : Nat) (o : Nat → Int) (av : Int) : alF l f o av [] = o := by
 cases f with
 | zero => rfl
 | succ f => unfold alF; rw [if_pos rfl]
theorem alF_app {l : List Rt} {r : Rt} (hd : ∀ i, 0 ≤ i → i < (l.length : Int) → (rtA l i).d < r.d) : ∀ f (o o' : Nat → Int) (av : Int) (O : List Int), (∀ x ∈ O, 0 ≤ x ∧ x < (l.length : Int)) → O.length ≤ f → (∀ k, k < l.length → o' k = o k) →
  ∀ k, k < l.length → alF (l ++ [r]) (f + 1) o' av (O ++ [(l.length : Int)]) k = alF l f o av O k
 | f, o, o', av, [], _, _, ho, k, hk => by
   rw [alF_nil]
   unfold alF
   rw [if_neg (by simp)]
   have hr : runO (l ++ [r]) ([] ++ [(l.length : Int)]) = 1 := by
    show (if (rtA (l ++ [r]) l.length).d = (rtA (l ++ [r]) l.length).d then 0 + 1 else 0) = 1
    rw [if_pos rfl]
   rw [hr]
   show alF _ f (putN o' _ _ 1) _ [] k = _
   rw [alF_nil]
   show (if k = (l.length : Int).toNat then _ else o' k) = _
   rw [if_neg (by omega)]
   exact ho k hk
 | 0, o, o', av, i :: O, _, h, _, _, _ => by simp at h
 | f + 1, o, o', av, i :: O, hO, hf, ho, k, hk => by
   have hi := hO i (List.mem_cons_self ..)
   have e0 : rtA (l ++ [r]) (((i :: O) ++ [(l.length : Int)]).getD 0 default) = rtA l ((i :: O).getD 0 default) := rtA_app hi
   have hr : runO (l ++ [r]) ((i :: O) ++ [(l.length : Int)]) = runO l (i :: O) := by
    unfold runO
    rw [e0]
    exact runN_app (by have := hd i hi.1 hi.2; show r.d ≠ (rtA l i).d; omega) _ hO
   have hle : runO l (i :: O) ≤ (i :: O).length := runN_le _ _ _
   have hpos : 0 < runO l (i :: O) := by
    show 0 < (if (rtA l i).d = (rtA l i).d then _ + 1 else 0)
    rw [if_pos rfl]; omega
   show alF (l ++ [r]) (f + 1 + 1) _ _ _ _ = _
   rw [show alF l (f + 1) o av (i :: O) = alF l f (putN o (i :: O) (grp l av (i :: O) (runO l (i :: O))) (runO l (i :: O))) (av - min (sumL (flwL l (i :: O) (runO l (i :: O)))) av) ((i :: O).drop (runO l (i :: O))) from if_neg (by simp)]
   rw [show alF (l ++ [r]) (f + 1 + 1) o' av (i :: O ++ [(l.length : Int)]) = alF (l ++ [r]) (f + 1) (putN o' (i :: O ++ [(l.length : Int)]) (grp (l ++ [r]) av (i :: O ++ [(l.length : Int)]) (runO (l ++ [r]) (i :: O ++ [(l.length : Int)]))) (runO (l ++ [r]) (i :: O ++ [(l.length : Int)]))) (av - min (sumL (flwL (l ++ [r]) (i :: O ++ [(l.length : Int)]) (runO (l ++ [r]) (i :: O ++ [(l.length : Int)])))) av) ((i :: O ++ [(l.length : Int)]).drop (runO (l ++ [r]) (i :: O ++ [(l.length : Int)]))) from if_neg (by simp)]
   rw [hr, flwL_app hO hle, List.drop_append_of_le_length hle]
   have hg : grp (l ++ [r]) av (i :: O ++ [(l.length : Int)]) (runO l (i :: O)) = grp l av (i :: O) (runO l (i :: O)) := by
    unfold grp; rw [flwL_app hO hle]
   rw [hg]
   refine alF_app hd f _ _ _ _ (fun x hx => hO x (List.mem_of_mem_drop hx)) (by rw [List.length_drop]; simp only [List.length_cons] at hf hle ⊢; omega) (putN_app ho _ hle) k hk
theorem mem_getD {a : List Int} {x : Int} (h : x ∈ a) : ∃ k, k < a.length ∧ x = a.getD k default := by
 obtain ⟨k, hk, e⟩ := List.getElem_of_mem h
 exact ⟨k, hk, by rw [List.getD_eq_getElem?_getD, List.getElem?_eq_getElem hk]; exact e.symm⟩
theorem allot_app {l : List Rt} {r : Rt} {day : Int} (hr : inSp r.f r.u day = true) (hd : ∀ i, 0 ≤ i → i < (l.length : Int) → (rtA l i).d < r.d) (av : Int) : ∀ k, k < l.length → allotF (l ++ [r]) av day k = allotF l av day k := by
 unfold allotF
 rw [ordR_app hr hd, List.length_append]
 exact alF_app hd _ _ _ av _ (fun x hx => by obtain ⟨k, hk, rfl⟩ := mem_getD hx; exact ordR_in l day k hk) (Nat.le_refl _) (fun _ _ => rfl)
end Pv
end Go.Proofs.YtdcgnfkkklbckaaGreatDoor
/- TOP, THE WALKS: quantiles. -/
set_option linter.unusedSimpArgs false
set_option linter.unusedVariables false
namespace Go.Proofs.YtdcgnfkkklbckaaGreatDoor
namespace Pv
def c45L1 : C := (.seq (.reg [⟨some 54, 864, none, .bi false .lss (.t 53) (.t 52)⟩])
 (.seq (.cond (.t 54) .skip (.exit 1))
 (.seq (.block 2 (.seq (.reg [⟨some 55, 880, none, .ia 2 (.t 51) (.t 53)⟩,⟨some 56, 896, none, .ld 2 true (.t 55)⟩,⟨some 15, 240, none, .al [(.int .i64 0), (.nil 1)]⟩,⟨none, 0, none, .st 2 (.t 15) (.t 56)⟩])
 (.seq (.reg [⟨some 57, 912, none, .mv (.t 13)⟩,⟨some 58, 928, none, .fa 0 (.t 15)⟩,⟨some 59, 944, none, .ld 1 false (.t 58)⟩,⟨some 60, 960, none, .bi false .add (.t 57) (.t 59)⟩,⟨some 13, 208, none, .mv (.t 60)⟩])
 (.seq (.reg [⟨some 61, 976, none, .mv (.t 3)⟩,⟨some 62, 992, none, .mv (.t 13)⟩,⟨some 63, 1008, none, .bi false .mul (.t 61) (.t 62)⟩,⟨some 64, 1024, none, .mv (.t 2)⟩,⟨some 65, 1040, none, .mv (.t 12)⟩,⟨some 66, 1056, none, .bi false .mul (.t 64) (.t 65)⟩,⟨some 67, 1072, none, .bi false .geq (.t 63) (.t 66)⟩])
 (.cond (.t 67) (.seq (.reg [⟨some 68, 1088, none, .fa 1 (.t 15)⟩,⟨some 69, 1104, none, .ld 1 false (.t 68)⟩,⟨some 70, 1120, none, .ld 1 false (.t 11)⟩,⟨some 71, 1136, none, .ia 1 (.t 69) (.t 70)⟩,⟨some 72, 1152, none, .ld 1 false (.t 71)⟩,⟨some 8, 128, none, .mv (.t 72)⟩,⟨some 9, 144, none, .mv (.c (.int .i64 0))⟩])
 .ret) .skip)))))
 (.reg [⟨some 73, 1168, none, .bi false .add (.t 53) (.c (.int .i64 1))⟩,⟨some 53, 848, none, .mv (.t 73)⟩]))))
def c45 : C := (.seq (.reg [⟨some 4, 64, none, .bx 3 (.t 0)⟩,⟨some 8, 128, none, .mv (.c (.int .i64 0))⟩,⟨some 9, 144, none, .mv (.c (.int .i64 0))⟩])
 (.seq (.seq (.reg [⟨some 16, 256, none, .ld 3 true (.t 4)⟩,⟨some 17, 272, none, .call (.c (.fn (.func 103) [] [])) [(.t 16)]⟩,⟨some 10, 160, none, .mv (.t 17)⟩])
 (.seq (.reg [⟨some 18, 288, none, .mv (.t 10)⟩,⟨some 19, 304, none, .bi false .neq (.t 18) (.c (.int .i64 0))⟩])
 (.cond (.t 19) (.seq (.reg [⟨some 20, 320, none, .mv (.t 10)⟩,⟨some 8, 128, none, .mv (.c (.int .i64 0))⟩,⟨some 9, 144, none, .mv (.t 20)⟩])
 .ret) .skip)))
 (.seq (.block 0 (.seq (.reg [⟨some 22, 352, none, .mv (.t 2)⟩,⟨some 23, 368, none, .bi false .lss (.t 22) (.c (.int .i64 1))⟩,⟨some 24, 384, none, .mv (.t 23)⟩,⟨some 25, 400, (some (24, false)), .mv (.t 3)⟩,⟨some 26, 416, (some (24, false)), .bi false .lss (.t 25) (.c (.int .i64 1))⟩,⟨some 27, 432, none, .pick (.t 24) (.c (.bool true)) (.t 26)⟩,⟨some 28, 448, none, .mv (.t 27)⟩,⟨some 29, 464, (some (28, false)), .mv (.t 2)⟩,⟨some 30, 480, (some (28, false)), .mv (.t 3)⟩,⟨some 31, 496, (some (28, false)), .bi false .gtr (.t 29) (.t 30)⟩,⟨some 32, 512, none, .pick (.t 28) (.c (.bool true)) (.t 31)⟩,⟨some 33, 528, none, .mv (.t 32)⟩,⟨some 34, 544, (some (33, false)), .mv (.t 3)⟩,⟨some 35, 560, (some (33, false)), .bi false .gtr (.t 34) (.c (.int .i64 10000))⟩,⟨some 36, 576, none, .pick (.t 33) (.c (.bool true)) (.t 35)⟩,⟨some 21, 336, none, .mv (.t 36)⟩])
 (.cond (.t 21) (.seq (.reg [⟨some 8, 128, none, .mv (.c (.int .i64 0))⟩,⟨some 9, 144, none, .mv (.c (.int .i64 1))⟩])
 .ret) (.seq (.reg [⟨some 38, 608, none, .ld 3 true (.t 4)⟩,⟨some 39, 624, none, .mv (.t 1)⟩,⟨some 40, 640, none, .call (.c (.fn (.func 104) [] [])) [(.t 38), (.t 39)]⟩,⟨some 41, 656, none, .un false .not (.t 40)⟩,⟨some 37, 592, none, .mv (.t 41)⟩])
 (.cond (.t 37) (.seq (.reg [⟨some 8, 128, none, .mv (.c (.int .i64 0))⟩,⟨some 9, 144, none, .mv (.c (.int .i64 6))⟩])
 .ret) .skip)))))
 (.seq (.reg [⟨some 42, 672, none, .mv (.t 1)⟩,⟨some 43, 688, none, .fa 0 (.t 4)⟩,⟨some 44, 704, none, .ld 1 false (.t 43)⟩,⟨some 45, 720, none, .bi false .sub (.t 42) (.t 44)⟩,⟨some 11, 176, none, .al [(.int .i64 0)]⟩,⟨none, 0, none, .st 1 (.t 11) (.t 45)⟩])
 (.seq (.reg [⟨some 46, 736, none, .ld 3 true (.t 4)⟩,⟨some 47, 752, none, .call (.c (.fn (.func 105) [] [])) [(.t 46), (.c (.fn (.func 106) [] []))]⟩,⟨some 12, 192, none, .mv (.t 47)⟩,⟨some 13, 208, none, .mv (.c (.int .i64 0))⟩])
 (.cut (.seq (.seq (.reg [⟨some 48, 768, none, .fa 1 (.t 4)⟩,⟨some 49, 784, none, .ld 1 false (.t 48)⟩,⟨some 50, 800, none, .mf (.func 108) [] [(.t 11)]⟩,⟨some 51, 816, none, .call (.c (.fn (.func 107) [] [])) [(.t 49), (.t 50)]⟩,⟨some 52, 832, none, .len (.t 51)⟩,⟨some 53, 848, none, .mv (.c (.int .i64 0))⟩])
 (.block 1 (.loop c45L1)))
 (.seq (.reg [⟨some 8, 128, none, .mv (.c (.int .i64 0))⟩,⟨some 9, 144, none, .mv (.c (.int .i64 1))⟩])
 .ret))))))))
theorem fits45 : fits Tryz.prog false Tryz.f45 4 74 [(8, none), (9, none)] = some c45.er := by kernel_rfl
theorem sumW_eq (l : List Sc) : ∀ n, sumW l n = sumN (fun k => wtS l (k : Int)) n
 | 0 => rfl
 | n + 1 => by unfold sumW sumN; rw [sumW_eq l n]
def gS (l : List Sc) (at_ : Nat) : Nat → Int := insN (rkS l at_) (fun k => (k : Int)) l.length
set_option maxRecDepth 100000 in
set_option maxHeartbeats 4000000 in
theorem call45 (n at_ k : Nat) (a den : Int) (l : List Sc) (h : BnV a l n) (h20 : l.length < 20) (hat : at_ < n) (hden : 1 ≤ den ∧ den ≤ 10000) (hk : k < l.length)
  (h1 : sumW l l.length ≤ den * sumN (fun j => wtS l (gS l at_ j)) (k + 1)) (h2 : ∀ j, j < k → den * sumN (fun j => wtS l (gS l at_ j)) (j + 1) < sumW l l.length) :
  PureCall Tryz.prog 45 [.agg (eBn 2 a l false), .int .i64 (a + at_), .int .i64 1, .int .i64 den] [] ⟨.tup [.int .i64 (rkS l at_ (gS l at_ k)), .int .i64 0], [], []⟩ := by
 have ha := (wi_iff _ _).1 h.ha
 have hn := h.hn
 have hl := h.hl
 have hfl : ∀ i : Int, (0 ≤ i ∧ i < l.length) → at_ < (l.getD i.toNat default).f.length := fun i hi => by
  have := (h.hs i.toNat (by omega)).n
  omega
 have hall := sumW_rng h l.length (Nat.le_refl _)
 have h107 := call107 at_ l (by omega) h20 hfl
 have hgin : ∀ j, j < l.length → 0 ≤ gS l at_ j ∧ gS l at_ j < l.length := insN_in (p := fun x => 0 ≤ x ∧ x < l.length) _ (fun k hk => by omega) _ (Nat.le_refl _)
 have hw : ∀ j, j < l.length → 1 ≤ wtS l (gS l at_ j) ∧ wtS l (gS l at_ j) ≤ 10000 := fun j hj => (h.hs (gS l at_ j).toNat (by have := hgin j hj; omega)).w
 rw [show insN (rkS l at_) (fun k => (k : Int)) l.length = gS l at_ from rfl] at h107
 have hsum : ∀ i, i ≤ l.length → 0 ≤ sumN (fun j => wtS l (gS l at_ j)) i ∧ sumN (fun j => wtS l (gS l at_ j)) i ≤ 10000 * i := fun i hi => by
  refine ⟨sumN_nn i fun j hj => ?_, sumN_le i fun j hj => ?_⟩
  ·have := hw j (by omega); omega
  ·exact (hw j (by omega)).2
 generalize gS l at_ = g at h1 h2 h107 hgin hw hsum ⊢
 have h107' : PureCall Tryz.prog 107 [.sl 2 2 l.length (fl (eSc 0) l), .fn (.func 108) [] [.rp 2 [.int .i64 at_]]] [] _ := PureCall.arg_sem h107 fun X γ w vals hv => by
  obtain ⟨u, us, rfl, b1, b2⟩ := hv.cons_inv
  refine RepL.cons_ (b1.sl_congr (fun i hi => rfl) (fun i hi c hc => ?_) fun i j c' hi hj => ?_) b2
  ·simp only [fl, eSc, List.mem_cons, List.not_mem_nil, or_false] at hc
   rcases hc with rfl | rfl <;> rfl
  ·match j, hj with
   | 0, hj =>
     simp only [fl, eSc, List.getElem?_cons_zero, Option.some.injEq] at hj
     subst hj
     exact ⟨_, rfl, fun u hu => hu⟩
   | 1, hj =>
     simp only [fl, eSc, List.getElem?_cons_succ, List.getElem?_cons_zero, Option.some.injEq] at hj
     subst hj
     exact ⟨_, rfl, fun u hu => hu⟩
   | j + 2, hj => simp [fl, eSc] at hj
 clear h107
 refine pure_call mix Tryz.func45 fits45 rfl ?_
 conv => whnf
 refine ⟨_, fun _ => call103 _ n a l h, ?_⟩
 conv => whnf
 refine ⟨?_, fun hc => (by cases hc), fun _ => ?_⟩
 ·exact g0
 conv => whnf
 refine ⟨?_, fun hc => ?_, fun _ => ?_⟩
 ·exact g0
 ·simp only [bp] at hc
  omega
 conv => whnf
 refine ⟨_, fun _ => call104 _ n a (a + at_) l false h (by omega) (by omega), ?_⟩
 conv => whnf
 refine ⟨?_, fun hc => (by cases hc), fun _ => ?_⟩
 ·exact g0
 conv => whnf
 refine ⟨_, fun _ => call105 _ n a l false h, ?_⟩
 conv => whnf
 refine ⟨?_, ?_⟩
 ·exact g0
 have e0 : a + (at_ : Int) - a = at_ := by omega
 refine LSem.cut (n := 74) mix (fl := [(2, .int .i64 1), (3, .int .i64 den), (4, .pt 64 0 0), (11, .rp 2 [.int .i64 (a + at_ - a)]), (12, .int .i64 (sumW l l.length)), (13, .int .i64 0)]) (sl := [(64, .box (eBn 2 a l false))]) ?_ ?_
 ·refine ⟨rfl, rfl, ?_, ?_⟩
  all_goals repeat' (first | exact True.intro | refine leF_cons rfl ?_ ?_ | refine leS_cons rfl ?_ ?_ | (show PLe _ _ _ _; conv => whnf) | (show SLe _ _ _ _; conv => whnf) | (show PLeL _ _ _ _; conv => whnf) | apply And.intro | rfl | exact Nat.le_refl _ | exact fun _ _ => rfl | exact rowEq0 _ _)
  all_goals exact Nat.zero_le 2
 rw [e0]
 conv => whnf
 refine ⟨_, fun _ => h107', ?_⟩
 conv => whnf
 refine ⟨?_, ?_⟩
 ·exact g0
 refine LSem.loop (n := 74) mix (α := Nat) (fun i => i ≤ k)
  (fun i => [(2, .int .i64 1), (3, .int .i64 den), (11, .rp 2 [.int .i64 at_]), (12, .int .i64 (sumW l l.length)), (13, .int .i64 (sumN (fun j => wtS l (g j)) i)), (51, .os 816), (52, .int .i64 l.length), (53, .int .i64 i)])
  (fun i => [(816, .row 2 130 2 l.length (eSG l g))]) (fun i => k - i) 0 ?_ ?_ ?_
 ·exact Nat.zero_le _
 ·refine ⟨rfl, rfl, ?_, ?_⟩
  all_goals repeat' (first | exact True.intro | refine leF_cons rfl ?_ ?_ | refine leS_cons rfl ?_ ?_ | (show PLe _ _ _ _; conv => whnf) | (show SLe _ _ _ _; conv => whnf) | (show PLeL _ _ _ _; conv => whnf) | apply And.intro | rfl | exact Nat.le_refl _ | exact fun _ _ => rfl | exact rowEq0 _ _)
 ·intro i hi
  conv => whnf
  refine ⟨trivial, fun hc => ?_, fun hc => ?_⟩
  ·have e1 : ((i : Int)).toNat = i := by omega
   have w1 := hw i (by omega)
   have s1 := hsum i (by omega)
   have s2 := hsum (i + 1) (by omega)
   have f1 := hfl (g i) (hgin i (by omega))
   have eS : sumN (fun j => wtS l (g j)) (i + 1) = sumN (fun j => wtS l (g j)) i + wtS l (g i) := rfl
   have m1 : 0 ≤ den * sumN (fun j => wtS l (g j)) (i + 1) ∧ den * sumN (fun j => wtS l (g j)) (i + 1) ≤ 10000 * (10000 * 20) :=
    ⟨Int.mul_nonneg (by omega) s2.1, Int.mul_le_mul hden.2 (by omega) s2.1 (by omega)⟩
   have e2 : sumN (fun j => wtS l (g j)) i + (l.getD (g i).toNat default).w = sumN (fun j => wtS l (g j)) (i + 1) := rfl
   conv => whnf
   rw [e1, e2]
   generalize hD : den * sumN (fun j => wtS l (g j)) (i + 1) = D at m1 ⊢
   refine ⟨?_, fun hc2 => ?_, fun hc2 => ?_⟩
   ·exact g0
   ·simp only [bp] at hc2
    have : i = k := by
     rcases Nat.lt_or_ge i k with h3 | h3
     ·have := h2 i h3
      rw [hD] at this
      omega
     ·omega
    subst this
    conv => whnf
    refine ⟨?_, [], ?_⟩
    ·exact g0
    conv => whnf
    refine ⟨rfl, ?_, trivial, trivial⟩
    all_goals repeat' (first | exact True.intro | refine leF_cons rfl ?_ ?_ | refine leS_cons rfl ?_ ?_ | (show PLe _ _ _ _; conv => whnf) | (show SLe _ _ _ _; conv => whnf) | (show PLeL _ _ _ _; conv => whnf) | apply And.intro | rfl | exact Nat.le_refl _ | exact fun _ _ => rfl | exact rowEq0 _ _)
   ·simp only [bp] at hc2
    have hlt : i < k := by
     rcases Nat.lt_or_ge i k with h3 | h3
     ·exact h3
     ·have : i = k := by omega
      subst this
      rw [hD] at h1
      omega
    conv => whnf
    refine ⟨?_, i + 1, hlt, ?_, rfl, rfl, ?_, ?_⟩
    ·exact g0
    ·omega
    all_goals repeat' (first | exact True.intro | refine leF_cons rfl ?_ ?_ | refine leS_cons rfl ?_ ?_ | (show PLe _ _ _ _; conv => whnf) | (show SLe _ _ _ _; conv => whnf) | (show PLeL _ _ _ _; conv => whnf) | apply And.intro | rfl | exact Nat.le_refl _ | exact fun _ _ => rfl | exact rowEq0 _ _)
    all_goals first | omega | skip
  ·replace hc := of_decide_eq_false hc
   omega
end Pv
end Go.Proofs.YtdcgnfkkklbckaaGreatDoor
/- RUNS: what has to be shown of an instruction, reckoned; then it holds. -/
set_option linter.unusedSimpArgs false
set_option linter.unusedVariables false
namespace Go.Proofs.YtdcgnfkkklbckaaGreatDoor
namespace Pv
def inRB (k : IntKind) (n : Int) : Bool := decide (k.min ≤ n) && decide (n ≤ k.max)
theorem inRB_ok {k : IntKind} {n : Int} (h : inRB k n = true) : inR k n := by
 unfold inRB at h; simp only [Bool.and_eq_true, decide_eq_true_eq] at h; exact h
def biB (w : Bool) (op : BinOp) (k : IntKind) (a b : Int) : Bool := match op with
 | .add => w || inRB k (a + b)
 | .sub => w || inRB k (a - b)
 | .mul => w || inRB k (a * b)
 | .quo => !(b == 0) && (w || inRB k (a.tdiv b))
 | .rem => !(b == 0)
 | .shr => b == 1
 | .or | .xor | .and => (decide (0 ≤ a) && decide (a ≤ k.max)) && (decide (0 ≤ b) && decide (b ≤ k.max))
 | _ => true
def shfB (w : Bool) (op : BinOp) (k : IntKind) (a b : Int) : Bool := match op with
 | .shr => decide (0 ≤ b) && decide (b.toNat ≤ k.bits)
 | .shl => (decide (0 ≤ b) && decide (b.toNat ≤ k.bits)) && (w || inRB k (a * 2 ^ b.toNat))
 | _ => true
def biVB (w : Bool) (op : BinOp) : PV → PV → Bool
 | .int k a, .int k' b => if k = k' then biB w op k a b else shfB w op k a b
 | .str a, .str b => match op with
   | .add => decide (a.length + b.length ≤ 9223372036854775807)
   | _ => true
 | _, _ => true
def pickB : Bool → PV → PV → Bool
 | _, .bool _, .bool _ => true
 | c, .bool _, .cnd g (.bool _) => c || g
 | c, .cnd g (.bool _), .bool _ => !c || g
 | c, .bool _, .cnd _ .junk => c
 | c, .cnd _ .junk, .bool _ => !c
 | c, .cnd g (.bool _), .cnd g' (.bool _) => (!c || g) && (c || g')
 | _, _, _ => true
def idxB (i : Int) (n : Nat) : Bool := decide (0 ≤ i) && decide (i.toNat < n)
def slcB (lo hi : Bool) (vs : List PV) (cs : List SE) : Bool := match lo, hi, vs, cs with
 | true, false, [.sl _ _ m _, .int _ l], _ => decide (0 ≤ l) && decide (l.toNat ≤ m)
 | true, false, [.os _, .int _ l], [.row _ _ _ m _] => decide (0 ≤ l) && decide (l.toNat ≤ m)
 | false, true, [.sl _ _ m _, .int _ h], _ => decide (0 ≤ h) && decide (h.toNat ≤ m)
 | false, true, [.os _, .int _ h], [.row _ _ _ m _] => decide (0 ≤ h) && decide (h.toNat ≤ m)
 | true, true, [.sl _ _ m _, .int _ l, .int _ h], _ => (decide (0 ≤ l) && decide (l.toNat ≤ h.toNat)) && (decide (0 ≤ h) && decide (h.toNat ≤ m))
 | _, _, _, _ => true
def slcsB (lo hi : Bool) (vs : List PV) : Bool := match lo, hi, vs with
 | true, false, [.str s, .int _ l] => decide (0 ≤ l) && decide (l.toNat ≤ s.length)
 | false, true, [.str s, .int _ h] => decide (0 ≤ h) && decide (h.toNat ≤ s.length)
 | true, true, [.str s, .int _ l, .int _ h] => (decide (0 ≤ l) && decide (l.toNat ≤ h.toNat)) && (decide (0 ≤ h) && decide (h.toNat ≤ s.length))
 | _, _, _ => true
def appB (bytes : Nat) (vs : List PV) (cs : List SE) : Bool := match vs, cs with
 | [.vw true _ _ h, y], .row .. :: cs => match srcRows y cs with
   | some (_, _, m', _) => decide ((h + m') * bytes ≤ 140737488355328) && decide (h + m' ≤ maxLen)
   | none => true
 | [.os _, y], .row _ _ _ m _ :: cs => match srcRows y cs with
   | some (_, _, m', _) => decide ((m + m') * bytes ≤ 140737488355328) && decide (m + m' ≤ maxLen)
   | none => true
 | [.nil _, y], cs => match srcRows y cs with
   | some (_, _, m', _) => decide (m' * bytes ≤ 140737488355328) && decide (m' ≤ maxLen)
   | none => true
 | _, _ => true
def effB (i : I) (vs : List PV) (cs : List SE) : Bool := match i with
 | .bi w op _ _ => match vs with
   | [a, b] => biVB w op a b
   | _ => true
 | .pick _ _ _ => match vs with
   | [.bool c, a, b] => pickB c a b
   | _ => true
 | .ld _ _ _ => match vs, cs with
   | [.pt _ i _], [.row _ _ _ m _] => decide (i < m)
   | _, _ => true
 | .st _ _ _ => match vs, cs with
   | [.pt _ i _, _], [.row _ _ _ m _] => decide (i < m)
   | _, _ => true
 | .isn _ _ => match vs, cs with
   | [.sl _ _ n _], _ => decide (0 < n)
   | [.os _], [.row _ _ _ n _] => decide (0 < n)
   | _, _ => true
 | .un w .neg _ => match vs with
   | [.int k n] => biB w .sub k 0 n
   | _ => true
 | .cv w k _ => match vs with
   | [.int _ n] => w || inRB k n
   | _ => true
 | .ia _ _ _ => match vs, cs with
   | [.sl _ _ m _, .int _ i], _ => idxB i m
   | [.os _, .int _ i], [.row _ _ _ m _] => idxB i m
   | [.vw _ _ _ n, .int _ i], [.row ..] => idxB i n
   | [.rf (some (_, n)) _, .int _ i], _ => idxB i n
   | _, _ => true
 | .iaa len _ _ _ => match vs with
   | [_, .int _ i] => idxB i len
   | _ => true
 | .ixa len _ _ _ _ => match vs with
   | [_, .int _ i] => idxB i len
   | _ => true
 | .ixs _ _ => match vs with
   | [.str s, .int _ i] => idxB i s.length
   | _ => true
 | .app _ _ bytes _ _ => appB bytes vs cs
 | .slc _ _ lo hi => slcB lo.isSome hi.isSome vs cs
 | .slcs _ lo hi => slcsB lo.isSome hi.isSome vs
 | .mks _ _ bytes _ _ _ => match vs with
   | [.int _ n, .int _ c] => (decide (0 ≤ n) && decide (n ≤ c)) && (decide (c * (bytes : Int) ≤ 140737488355328) && decide (c ≤ (maxLen : Int)))
   | _ => true
 | .cvb _ _ => match vs with
   | [.str s] => decide (s.length ≤ maxLen)
   | _ => true
 | .cvs _ => false
 | .clr _ _ => match vs, cs with
   | [.vw _ _ lo n], [.row _ _ _ m _] => decide (lo + n ≤ m)
   | _, _ => true
 | _ => true
theorem biB_ok {w : Bool} {op : BinOp} {k : IntKind} {a b : Int} {E : Eff} (h : biI w op k a b = some E) (hb : biB w op k a b = true) : allP E.side := by
 unfold biI at h
 unfold biB at hb
 cases op <;> simp only at h hb <;> cases w <;> simp only [Bool.false_eq_true, if_false, if_true, Option.some.injEq, reduceCtorEq, Bool.true_or, Bool.false_or] at h hb <;> (try subst h) <;>
  simp_all [Eff.pure, Eff.side', allP, Bool.and_eq_true, inRB_ok]
theorem shfB_ok {w : Bool} {op : BinOp} {k : IntKind} {a b : Int} {E : Eff} (h : shfI w op k a b = some E) (hb : shfB w op k a b = true) : allP E.side := by
 unfold shfI at h
 unfold shfB at hb
 cases op <;> simp only at h hb <;> cases w <;> simp only [Bool.false_eq_true, if_false, if_true, Option.some.injEq, reduceCtorEq, Bool.true_or, Bool.false_or] at h hb <;> (try subst h) <;>
  simp_all [Eff.pure, Eff.side', allP, Bool.and_eq_true, inRB_ok]
theorem biVB_ok {w : Bool} {op : BinOp} {a b : PV} {E : Eff} (h : biV w op a b = some E) (hb : biVB w op a b = true) : allP E.side := by
 unfold biV at h
 unfold biVB at hb
 split at h
 ·simp only at hb
  split at h
  ·rename_i hk; rw [if_pos hk] at hb; exact biB_ok h hb
  ·rename_i hk; rw [if_neg hk] at hb; exact shfB_ok h hb
 ·simp only at hb
  cases op <;> simp only [Option.some.injEq, reduceCtorEq] at h hb <;> (try subst h) <;> simp_all [Eff.pure, Eff.side', allP]
 ·cases h
theorem pickB_ok {c : Bool} {a b : PV} {E : Eff} (h : pickV c a b = some E) (hb : pickB c a b = true) : allP E.side := by
 unfold pickV at h
 split at h <;> (try simp only [Option.some.injEq, reduceCtorEq] at h) <;> (try subst h) <;> simp only [pickB, Bool.and_eq_true, Bool.or_eq_true, Bool.not_eq_true'] at hb <;>
  simp only [Eff.pure, Eff.side', allP, and_true]
 ·intro hc; rcases hb with hb | hb
  ·rw [hc] at hb; cases hb
  ·exact hb
 ·intro hc; rcases hb with hb | hb
  ·rw [hc] at hb; cases hb
  ·exact hb
 ·exact hb
 ·exact hb
 ·refine ⟨fun hc => ?_, fun hc => ?_⟩
  ·rcases hb.1 with h | h
   ·rw [hc] at h; cases h
   ·exact h
  ·rcases hb.2 with h | h
   ·rw [hc] at h; cases h
   ·exact h
theorem idxB_ok {i : Int} {n : Nat} (h : idxB i n = true) : 0 ≤ i ∧ i.toNat < n := by
 unfold idxB at h; simpa using h
theorem ld_ok {n : Nat} {agg : Bool} {x : A} {vs : List PV} {cs : List SE} {E : Eff} (h : eLd n agg vs cs = some E) (hb : effB (.ld n agg x) vs cs = true) : allP E.side := by
 unfold eLd at h
 repeat' split at h
 all_goals first
  | (cases h; done)
  | (injection h with h; subst h; simp_all [effB, Eff.pure, Eff.side', allP])
theorem st_ok {n : Nat} {x v : A} {vs : List PV} {cs : List SE} {E : Eff} (h : eSt n vs cs = some E) (hb : effB (.st n x v) vs cs = true) : allP E.side := by
 unfold eSt at h
 repeat' split at h
 all_goals first
  | (cases h; done)
  | (injection h with h; subst h; simp_all [effB, Eff.pure, Eff.side', allP])
theorem clr_ok {zs : List PV} {x : A} {vs : List PV} {cs : List SE} {E : Eff} (h : eClr zs vs cs = some E) (hb : effB (.clr zs x) vs cs = true) : allP E.side := by
 unfold eClr at h
 repeat' split at h
 all_goals first
  | (cases h; done)
  | (injection h with h; subst h; simp_all [effB, Eff.pure, Eff.side', allP])
theorem cpy_ok {z : Nat} {vs : List PV} {cs : List SE} {E : Eff} (h : eCpy z vs cs = some E) : allP E.side := by
 unfold eCpy at h
 repeat' split at h
 all_goals first
  | (cases h; done)
  | (injection h with h; subst h; exact trivial)
theorem isn_ok {neg : Bool} {x : A} {vs : List PV} {cs : List SE} {E : Eff} (h : eIsn neg vs cs = some E) (hb : effB (.isn neg x) vs cs = true) : allP E.side := by
 unfold eIsn at h
 repeat' split at h
 all_goals first
  | (cases h; done)
  | (injection h with h; subst h; simp_all [effB, Eff.pure, Eff.side', allP])
theorem ia_ok {z : Nat} {x y : A} {vs : List PV} {cs : List SE} {E : Eff} (h : eIa z vs cs = some E) (hb : effB (.ia z x y) vs cs = true) : allP E.side := by
 unfold eIa at h
 repeat' split at h
 all_goals first
  | (cases h; done)
  | (injection h with h; subst h; simp only [effB] at hb; simpa [Eff.side', allP] using idxB_ok hb)
theorem iaa_ok {len z : Nat} {x y : A} {vs : List PV} {cs : List SE} {E : Eff} (h : eIaa len z vs = some E) (hb : effB (.iaa len z x y) vs cs = true) : allP E.side := by
 unfold eIaa at h
 repeat' split at h
 all_goals first
  | (cases h; done)
  | (injection h with h; subst h; simp only [effB] at hb; simpa [Eff.side', allP] using idxB_ok hb)
theorem ixa_ok {len z : Nat} {agg : Bool} {x y : A} {vs : List PV} {cs : List SE} {E : Eff} (h : eIxa len z agg vs = some E) (hb : effB (.ixa len z agg x y) vs cs = true) : allP E.side := by
 unfold eIxa at h
 repeat' split at h
 all_goals first
  | (cases h; done)
  | (injection h with h; subst h; simp only [effB] at hb; simpa [Eff.side', allP] using idxB_ok hb)
theorem ixs_ok {x y : A} {vs : List PV} {cs : List SE} {E : Eff} (h : eIxs vs = some E) (hb : effB (.ixs x y) vs cs = true) : allP E.side := by
 unfold eIxs at h
 repeat' split at h
 all_goals first
  | (cases h; done)
  | (injection h with h; subst h; simp only [effB] at hb; simpa [Eff.side', allP] using idxB_ok hb)
theorem app_ok {d e z bytes : Nat} {x y : A} {vs : List PV} {cs : List SE} {E : Eff} (h : eApp d e z bytes vs cs = some E) (hb : effB (.app e z bytes x y) vs cs = true) : allP E.side := by
 unfold eApp at h
 simp only [effB, appB] at hb
 split at h <;> (try (cases h; done)) <;> (split at h <;> (try (cases h; done)) <;> (split at h <;> (try (cases h; done)) <;> (injection h with h; subst h; rename_i hs _ ; simp only [hs, Bool.and_eq_true, decide_eq_true_eq] at hb; exact ⟨hb.1, hb.2, trivial⟩)))
theorem slc_ok {z : Nat} {x : A} {lo hi : Option A} {vs : List PV} {cs : List SE} {E : Eff} (h : eSlc z lo.isSome hi.isSome vs cs = some E) (hb : effB (.slc z x lo hi) vs cs = true) : allP E.side := by
 simp only [effB] at hb
 cases hl : lo.isSome <;> cases hh : hi.isSome <;> rw [hl, hh] at h hb <;> simp only [eSlc] at h
 ·unfold eSlc00 at h
  repeat' split at h
  all_goals first | (cases h; done) | (injection h with h; subst h; simp [Eff.pure, allP])
 ·unfold eSlc01 at h
  repeat' split at h
  all_goals first | (cases h; done) | (injection h with h; subst h; simp only [slcB, Bool.and_eq_true, decide_eq_true_eq] at hb; simpa [Eff.side', allP] using hb)
 ·unfold eSlc10 at h
  repeat' split at h
  all_goals first | (cases h; done) | (injection h with h; subst h; simp only [slcB, Bool.and_eq_true, decide_eq_true_eq] at hb; simpa [Eff.side', allP] using hb)
 ·unfold eSlc11 at h
  repeat' split at h
  all_goals first | (cases h; done) | (injection h with h; subst h; simp only [slcB, Bool.and_eq_true, decide_eq_true_eq] at hb; simp only [Eff.side', allP, and_true]; exact ⟨hb.1.1, hb.1.2, hb.2.1, hb.2.2⟩)
theorem slcs_ok {x : A} {lo hi : Option A} {vs : List PV} {cs : List SE} {E : Eff} (h : eSlcs lo.isSome hi.isSome vs = some E) (hb : effB (.slcs x lo hi) vs cs = true) : allP E.side := by
 simp only [effB] at hb
 cases hl : lo.isSome <;> cases hh : hi.isSome <;> rw [hl, hh] at h hb <;> simp only [eSlcs] at h
 ·unfold eSlcs00 at h
  repeat' split at h
  all_goals first | (cases h; done) | (injection h with h; subst h; simp [Eff.pure, allP])
 ·unfold eSlcs01 at h
  repeat' split at h
  all_goals first | (cases h; done) | (injection h with h; subst h; simp only [slcsB, Bool.and_eq_true, decide_eq_true_eq] at hb; simpa [Eff.side', allP] using hb)
 ·unfold eSlcs10 at h
  repeat' split at h
  all_goals first | (cases h; done) | (injection h with h; subst h; simp only [slcsB, Bool.and_eq_true, decide_eq_true_eq] at hb; simpa [Eff.side', allP] using hb)
 ·unfold eSlcs11 at h
  repeat' split at h
  all_goals first | (cases h; done) | (injection h with h; subst h; simp only [slcsB, Bool.and_eq_true, decide_eq_true_eq] at hb; simp only [Eff.side', allP, and_true]; exact ⟨hb.1.1, hb.1.2, hb.2.1, hb.2.2⟩)
theorem mks_ok {d e z bytes : Nat} {zero : List PV} {x y : A} {vs : List PV} {cs : List SE} {E : Eff} (h : eMks d e z bytes zero vs = some E) (hb : effB (.mks e z bytes zero x y) vs cs = true) : allP E.side := by
 unfold eMks at h
 repeat' split at h
 all_goals first
  | (cases h; done)
  | (injection h with h; subst h; simp only [effB, Bool.and_eq_true, decide_eq_true_eq] at hb; simp only [allP, and_true]; exact ⟨hb.1.1, hb.1.2, hb.2.1, hb.2.2⟩)
theorem mx_pure {vs : List PV} {E : Eff} (h : eMx vs = some E) : allP E.side := by
 unfold eMx at h
 repeat' split at h
 all_goals first | (cases h; done) | (injection h with h; subst h; exact trivial)
theorem mn_pure {vs : List PV} {E : Eff} (h : eMn vs = some E) : allP E.side := by
 unfold eMn at h
 repeat' split at h
 all_goals first | (cases h; done) | (injection h with h; subst h; exact trivial)
theorem effB_ok {i : I} {c : CallRes} {d : Nat} {vs : List PV} {ids : List Nat} {cs : List SE} {E : Eff} (h : eff (fun _ _ _ _ => True) c d i vs ids cs = some E) (hb : effB i vs cs = true) : allP E.side := by
 cases i with
 | bi w op x y =>
   simp only [eff, eBi] at h
   split at h
   ·exact biVB_ok h (by simpa [effB] using hb)
   ·cases h
 | pick a b c' =>
   simp only [eff, ePick] at h
   split at h
   ·exact pickB_ok h (by simpa [effB] using hb)
   ·cases h
 | ld n agg x => exact ld_ok (x := x) h hb
 | st n x v => exact st_ok (x := x) (v := v) h hb
 | isn neg x => exact isn_ok (x := x) h hb
 | clr zs x => exact clr_ok (x := x) h hb
 | cpy z x y => exact cpy_ok h
 | un w op x =>
   simp only [eff] at h
   unfold eUn at h
   split at h
   ·exact biB_ok h (by simpa [effB] using hb)
   ·injection h with h; subst h; exact trivial
   ·cases h
 | cv w k x =>
   simp only [eff, eCv] at h
   simp only [effB] at hb
   split at h
   ·simp only [Bool.or_eq_true] at hb
    split at h
    ·injection h with h; subst h; exact trivial
    ·rename_i hw
     injection h with h; subst h
     exact ⟨inRB_ok (hb.resolve_left hw), trivial⟩
   ·cases h
 | ia z x y => exact ia_ok (x := x) (y := y) h hb
 | iaa len z x y => exact iaa_ok (x := x) (y := y) h hb
 | ixa len z agg x y => exact ixa_ok (x := x) (y := y) h hb
 | ixs x y => exact ixs_ok (x := x) (y := y) h hb
 | app e z bytes x y => exact app_ok (x := x) (y := y) h hb
 | slc z x lo hi => exact slc_ok (x := x) h hb
 | slcs x lo hi => exact slcs_ok (x := x) h hb
 | mks e z bytes zero x y => exact mks_ok (x := x) (y := y) h hb
 | cvb e x =>
   simp only [eff, eCvb] at h
   simp only [effB] at hb
   split at h
   ·injection h with h; subst h
    exact ⟨by simpa using hb, trivial⟩
   ·cases h
 | cvs x => cases hb
 | mx xs => exact mx_pure h
 | mn xs => exact mn_pure h
 | call f xs =>
   simp only [eff, eCall, callV] at h
   repeat' split at h
   all_goals first
    | (cases h; done)
    | (injection h with h; subst h; exact ⟨trivial, trivial⟩)
    | (unfold givV at h
       repeat' split at h
       all_goals first
        | (cases h; done)
        | (injection h with h; subst h; exact ⟨trivial, trivial⟩))
 | _ =>
   simp only [eff, eMv, eBx, eBd, eBs, eNc, eBib, eEqa, eFa, eFd, eLen, eLens, eEx, eMkm, eMpg, eMpu, eBsx, eCvb] at h
   (repeat' split at h) <;> first | (cases h; done) | (injection h with h; subst h; simp [Eff.pure, allP]) | skip
end Pv
end Go.Proofs.YtdcgnfkkklbckaaGreatDoor
/- RUNS: a region that is run on known values. -/
set_option linter.unusedSimpArgs false
set_option linter.unusedVariables false
namespace Go.Proofs.YtdcgnfkkklbckaaGreatDoor
namespace Pv
def cndsB : List PV → Bool
 | [] => true
 | .cnd g _ :: ps => g && cndsB ps
 | _ :: ps => cndsB ps
def stripB (i : I) (vs : List PV) : Bool := match i with
 | .pick _ _ _ => match vs with
   | .cnd g _ :: _ => g
   | _ => true
 | _ => cndsB vs
theorem cndsB_ok (vs : List PV) : cndsB vs = true → allP (stripL true vs).1 := by
 induction vs with
 | nil => exact fun _ => trivial
 | cons p ps ih =>
   intro h
   cases p with
   | cnd g p => simp only [cndsB, Bool.and_eq_true] at h; exact ⟨fun _ => h.1, ih h.2⟩
   | _ => simp only [cndsB] at h; exact ih h
theorem stripB_ok {i : I} {vs : List PV} (h : stripB i vs = true) : allP (stripI i true vs).1 := by
 have hs : cndsB vs = true → allP (stripS true vs).1 := fun h => by
  unfold stripS
  split
  ·trivial
  ·exact cndsB_ok vs h
 cases i with
 | pick a b c =>
   cases vs with
   | nil => trivial
   | cons p ps =>
     cases p with
     | cnd g p => exact ⟨fun _ => h, trivial⟩
     | _ => trivial
 | _ => exact hs h
def stepB (o : Ins) (s : PS) : Bool := match guardV s.fr o.g with
 | some true => match valL s.fr o.i.opr with
   | some vs0 => stripB o.i vs0 && (match getL s.st (o.i.acc (stripI o.i true vs0).2) with
     | some cs => effB o.i (stripI o.i true vs0).2 cs
     | none => true)
   | none => true
 | _ => true
abbrev anyS : FuncId → List PV → List SE → CallRes → Prop := fun _ _ _ _ => True
theorem allP_app {l m : List Prop} (h : allP l) (h' : allP m) : allP (l ++ m) := (allP_append _ _).2 ⟨h, h'⟩
theorem stepI_run {lg : Bool} {c : CallRes} {i : Nat} {o : Ins} {s s' : PS} (h : stepI anyS lg c i o s = some s') (hb : stepB o s = true) (hok : s.ok) : s'.ok := by
 obtain ⟨G, vs, cs, E, H⟩ := stepI_parts h
 obtain ⟨vs0, hv0, hvs, hokk⟩ := H.vals
 have hg := H.guard
 cases G with
 | false =>
   refine hokk.2 ⟨hok, fun _ h => (by cases h), fun hn => ?_⟩
   rw [hn] at hg; simp [guardV] at hg
 | true =>
   have e2 : (stripI o.i true vs0).2 = vs := by rw [hvs]
   unfold stepB at hb
   rw [hg] at hb
   simp only [hv0, e2, H.ent, Bool.and_eq_true] at hb
   have hall := allP_app (stripB_ok hb.1) (effB_ok H.eff hb.2)
   exact hokk.2 ⟨hok, fun _ _ => hall, fun _ => hall⟩
theorem stepX_run {lg : Bool} {c : CallRes} {i : Nat} {o : Ins} {s s' : PS} (h : stepX anyS lg c i o s = some s') (hb : stepB o s = true) (hok : s.ok) : s'.ok := by
 cases lg with
 | true => exact stepI_run (lg := true) (by simpa only [stepX] using h) hb hok
 | false =>
   obtain ⟨od, oid, og, oi⟩ := o
   obtain ⟨n, fr, st, ok, log⟩ := s
   have hsame : ∀ g, og = some g → guardV fr (some g) = some true → stepB ⟨od, oid, none, oi⟩ ⟨n, fr, st, ok, log⟩ = true := fun g hg hgv => by
    subst hg
    unfold stepB at hb ⊢
    simp only [hgv] at hb
    simpa [guardV] using hb
   simp only [stepX, stepG] at h
   split at h
   ·rename_i g _ _ hh
    split at h
    ·rename_i hgv
     exact stepI_run h (hsame _ rfl hgv) hok
    ·split at h
     ·injection h with h; subst h; exact hok
     ·split at h
      ·injection h with h; subst h; exact hok
      ·cases h
    ·cases h
   ·split at h
    ·exact stepI_run h hb hok
    split at h
    ·split at h
     ·injection h with h; subst h; exact hok
     ·split at h
      ·injection h with h; subst h; exact hok
      ·cases h
    ·cases h
   ·split at h
    ·rename_i s'' hs''
     injection h with h; subst h
     exact stepI_run hs'' hb hok
    ·split at h
     ·rename_i hgv
      exact stepI_run h (hsame _ rfl hgv) hok
     ·split at h
      ·injection h with h; subst h; exact hok
      ·split at h
       ·injection h with h; subst h; exact hok
       ·cases h
     ·cases h
   ·exact stepI_run h hb hok
def runI (R : FuncId → List PV → List SE → Option CallRes) (lg : Bool) : Nat → List Ins → PS → Option PS
 | _, [], s => some s
 | i, o :: r, s => match stepB o s with
   | false => none
   | true => match o.i.isCall && (lg || !skipJ o s) with
     | true => match callAt o s with
       | some (G, id, args, bs) => match G with
         | true => match R id args bs with
           | some c => match stepX anyS lg c i o s with
             | some s' => runI R lg (i + 1) r s'
             | none => none
           | none => none
         | false => match stepX anyS lg default i o s with
           | some s' => runI R lg (i + 1) r s'
           | none => none
       | none => none
     | false => match stepX anyS lg default i o s with
       | some s' => runI R lg (i + 1) r s'
       | none => none
theorem runI_sound {P : Program} {R : FuncId → List PV → List SE → Option CallRes} (hR : ∀ f args bs c, R f args bs = some c → PureCall P f args bs c) {lg : Bool} :
  ∀ {ins : List Ins} {i : Nat} {s s' : PS}, runI R lg i ins s = some s' → s.ok → s'.ok ∧ ∀ K : PS → Prop, K s' → evK (PureCall P) lg i ins s K
 | [], i, s, s', h, hok => by
   simp only [runI, Option.some.injEq] at h; subst h
   exact ⟨hok, fun K hK => hK⟩
 | o :: r, i, s, s', h, hok => by
   simp only [runI] at h
   split at h
   ·cases h
   ·rename_i hb
    split at h
    ·rename_i hc
     split at h
     ·rename_i G id args bs hca
      split at h
      ·split at h
       ·rename_i c hRc
        split at h
        ·rename_i s1 h1
         obtain ⟨g1, g2⟩ := runI_sound hR h (stepX_run h1 hb hok)
         refine ⟨g1, fun K hK => ?_⟩
         simp only [evK, hc, hca]
         exact ⟨c, fun _ => hR _ _ _ _ hRc, by rw [h1]; exact g2 K hK⟩
        ·cases h
       ·cases h
      ·split at h
       ·rename_i s1 h1
        obtain ⟨g1, g2⟩ := runI_sound hR h (stepX_run h1 hb hok)
        refine ⟨g1, fun K hK => ?_⟩
        simp only [evK, hc, hca]
        exact ⟨default, fun h => (by cases h), by rw [h1]; exact g2 K hK⟩
       ·cases h
     ·cases h
    ·rename_i hc
     split at h
     ·rename_i s1 h1
      obtain ⟨g1, g2⟩ := runI_sound hR h (stepX_run h1 hb hok)
      refine ⟨g1, fun K hK => ?_⟩
      simp only [evK, hc, h1]
      exact g2 K hK
     ·cases h
end Pv
end Go.Proofs.YtdcgnfkkklbckaaGreatDoor
/- RUNS: code that is run on known values; loops are run round by round. -/
set_option linter.unusedSimpArgs false
set_option linter.unusedVariables false
namespace Go.Proofs.YtdcgnfkkklbckaaGreatDoor
namespace Pv
open Go.RowKit
def PS.tr : PS → PS
 | ⟨n, fr, st, _, log⟩ => ⟨n, fr, st, True, log⟩
/-! ### which slots are still needed (a guess that nothing leans on) -/
def mAdd (t m : Nat) : Nat := Nat.lor m (Nat.shiftLeft 1 t)
def mHas (t m : Nat) : Bool := Nat.beq (Nat.land 1 (Nat.shiftRight m t)) 1
def mDel (t m : Nat) : Nat := match mHas t m with
 | true => Nat.sub m (Nat.shiftLeft 1 t)
 | false => m
def mA (a : A) (m : Nat) : Nat := match a with
 | .t n => mAdd n m
 | .c _ => m
def mAs : List A → Nat → Nat
 | [], m => m
 | a :: r, m => mA a (mAs r m)
def mI (o : Ins) (m : Nat) : Nat :=
 let m1 := mAs o.i.opr (match o.d with
  | some d => mDel d m
  | none => m)
 match o.g with
 | some (t, _) => mAdd t m1
 | none => m1
def mIs : List Ins → Nat → Nat
 | [], m => m
 | o :: r, m => mI o (mIs r m)
def mOf : List (Nat × Nat) → Nat → Nat
 | [], _ => 0
 | (k, m) :: E, i => match Nat.beq k i with
   | true => m
   | false => mOf E i
def mC (rl : Nat) : List (Nat × Nat) → C → Nat → Nat
 | _, .skip, m => m
 | _, .reg ins, m => mIs ins m
 | _, .drw ins _, m => mIs ins m
 | E, .seq a b, m => mC rl E a (mC rl E b m)
 | E, .cond c x y, m => mA c (Nat.lor (mC rl E x m) (mC rl E y m))
 | E, .block id b, m => mC rl ((id, m) :: E) b m
 | E, .loop b, _ => mC rl E b 0
 | E, .exit id, _ => mOf E id
 | E, .scope b, m => mC rl E b m
 | _, .ret, _ => rl
 | E, .cut b, m => mC rl E b m
 | _, _, m => m
/-! ### a state without what is not needed -/
def gcF (fr : Nat → Option PV) (m : Nat) : Nat → List (Nat × PV)
 | 0 => []
 | t + 1 => match mHas t m with
   | true => match fr t with
     | some p => (t, p) :: gcF fr m t
     | none => gcF fr m t
   | false => gcF fr m t
def idsFL : List (Nat × PV) → List Nat
 | [] => []
 | (_, p) :: l => p.ids ++ idsFL l
def gcS (st : Nat → Option SE) : Nat → List Nat → List (Nat × SE) → Option (List (Nat × SE))
 | _, [], acc => some acc
 | 0, _ :: _, _ => none
 | k + 1, r :: rs, acc => match keysB acc r with
   | true => gcS st k rs acc
   | false => match st r with
     | some e => gcS st k (e.ids ++ rs) ((r, e) :: acc)
     | none => none
def upTo : Nat → List Nat
 | 0 => []
 | n + 1 => n :: upTo n
def gcP (np m : Nat) (s : PS) : Option PS := match s with
 | ⟨n, fr, st, _, _⟩ => match gcF fr m n with
   | fl => match gcS st 100000 (upTo np ++ idsFL fl) [] with
     | some sl => match idsF sl fl && idsS sl sl && parB sl np with
       | true => some (St n fl sl)
       | false => none
     | none => none
mutual
theorem PLe_refl {st : Nat → Option SE} {kp : Nat → Bool} : ∀ (p : PV), (∀ r ∈ p.ids, kp r = true) → PLe st kp p p
 | .os r, h => by simp only [PLe]; exact ⟨trivial, h r (by simp [PV.ids])⟩
 | .vw _ r _ _, h => by simp only [PLe]; exact ⟨trivial, trivial, trivial, trivial, h r (by simp [PV.ids])⟩
 | .rf _ r, h => by simp only [PLe]; exact ⟨trivial, trivial, h r (by simp [PV.ids])⟩
 | .pt r _ _, h => by simp only [PLe]; exact ⟨trivial, trivial, trivial, h r (by simp [PV.ids])⟩
 | .agg cs, h => by simp only [PLe]; exact PLe_reflL cs h
 | .tup cs, h => by simp only [PLe]; exact PLe_reflL cs h
 | .fn f a b, h => by simp only [PLe]; exact ⟨trivial, PLe_reflL a (fun r hr => h r (by simp [PV.ids, hr])), PLe_reflL b (fun r hr => h r (by simp [PV.ids, hr]))⟩
 | .cnd g p, h => by simp only [PLe]; exact ⟨trivial, PLe_refl p h⟩
 | .mpv .., _ => by simp only [PLe]; exact ⟨trivial, trivial, trivial, trivial, fun _ _ => ⟨rfl, rfl⟩⟩
 | .int .., _ => by simp only [PLe]; exact ⟨trivial, trivial⟩
 | .bool _, _ => by simp only [PLe]
 | .str _, _ => by simp only [PLe]
 | .sl .., _ => by simp only [PLe]; exact ⟨Nat.le_refl _, trivial, trivial, fun _ _ => rfl⟩
 | .nil _, _ => by simp only [PLe]
 | .rp .., _ => by simp only [PLe]; exact ⟨Nat.le_refl _, trivial⟩
 | .raw _, _ => by simp only [PLe]
 | .junk, _ => by simp only [PLe]
theorem PLe_reflL {st : Nat → Option SE} {kp : Nat → Bool} : ∀ (l : List PV), (∀ r ∈ PV.idsL l, kp r = true) → PLeL st kp l l
 | [], _ => by simp only [PLeL]
 | p :: ps, h => by simp only [PLeL]; exact ⟨PLe_refl p (fun r hr => h r (by simp [PV.idsL, hr])), PLe_reflL ps (fun r hr => h r (by simp [PV.idsL, hr]))⟩
end
theorem SLe_refl {st : Nat → Option SE} {kp : Nat → Bool} (e : SE) (h : ∀ r ∈ e.ids, kp r = true) : SLe st kp e e := by
 cases e with
 | box l => exact PLe_reflL l h
 | row τ e z n f => exact ⟨Nat.le_refl _, rfl, rfl, rfl, fun _ _ => rfl, rfl⟩
 | bld T e s => exact ⟨rfl, rfl, rfl⟩
theorem gcF_mem {fr : Nat → Option PV} {m : Nat} : ∀ {n : Nat} {x : Nat × PV}, x ∈ gcF fr m n → fr x.1 = some x.2
 | 0, x, h => by simp [gcF] at h
 | n + 1, x, h => by
   simp only [gcF] at h
   split at h
   ·split at h
    ·rename_i p hp
     rcases List.mem_cons.1 h with rfl | h
     ·exact hp
     ·exact gcF_mem h
    ·exact gcF_mem h
   ·exact gcF_mem h
theorem gcS_mem {st : Nat → Option SE} : ∀ {k : Nat} {todo : List Nat} {acc sl : List (Nat × SE)}, gcS st k todo acc = some sl → (∀ x ∈ acc, st x.1 = some x.2) → ∀ x ∈ sl, st x.1 = some x.2
 | k, [], acc, sl, h, ha => by
   have : acc = sl := by cases k <;> simpa [gcS] using h
   subst this; exact ha
 | 0, _ :: _, acc, sl, h, ha => by simp [gcS] at h
 | k + 1, r :: rs, acc, sl, h, ha => by
   simp only [gcS] at h
   split at h
   ·exact gcS_mem h ha
   ·split at h
    ·rename_i e he
     refine gcS_mem h fun x hx => ?_
     rcases List.mem_cons.1 hx with rfl | hx
     ·exact he
     ·exact ha x hx
    ·cases h
theorem keys_kp {sl : List (Nat × SE)} {r : Nat} (h : ∃ e, stL sl r = some e) : keysB sl r = true := keysB_some.2 h
theorem leF_of {fr : Nat → Option PV} {st : Nat → Option SE} {kp : Nat → Bool} : ∀ {l : List (Nat × PV)}, (∀ x ∈ l, fr x.1 = some x.2 ∧ ∀ r ∈ x.2.ids, kp r = true) → leF fr st kp l
 | [], _ => trivial
 | (t, p) :: l, h => by
   have h1 := h (t, p) (by simp)
   refine ⟨?_, leF_of fun x hx => h x (by simp [hx])⟩
   rw [h1.1]; exact PLe_refl p h1.2
theorem leS_of {st : Nat → Option SE} {kp : Nat → Bool} : ∀ {l : List (Nat × SE)}, (∀ x ∈ l, st x.1 = some x.2 ∧ ∀ r ∈ x.2.ids, kp r = true) → leS st kp l
 | [], _ => trivial
 | (t, p) :: l, h => by
   have h1 := h (t, p) (by simp)
   refine ⟨?_, leS_of fun x hx => h x (by simp [hx])⟩
   rw [h1.1]; exact SLe_refl p h1.2
theorem gcP_ok {np m : Nat} {s s' : PS} (h : gcP np m s = some s') : s' = St s'.n (gcF s.fr m s.n) (match gcS s.st 100000 (upTo np ++ idsFL (gcF s.fr m s.n)) [] with | some sl => sl | none => []) ∧
  Ent np s s'.n (gcF s.fr m s.n) (match gcS s.st 100000 (upTo np ++ idsFL (gcF s.fr m s.n)) [] with | some sl => sl | none => []) := by
 obtain ⟨n, fr, st, ok, log⟩ := s
 simp only [gcP] at h
 split at h
 ·rename_i sl hsl
  split at h
  ·rename_i hb
   injection h with h; subst h
   simp only [hsl]
   have hb' := hb
   simp only [Bool.and_eq_true] at hb'
   refine ⟨rfl, rfl, hb, leF_of fun x hx => ⟨gcF_mem hx, fun r hr => keys_kp (idsF_mem hb'.1.1 x hx r hr)⟩, leS_of fun x hx => ⟨gcS_mem hsl (fun _ h => by simp at h) x hx, fun r hr => keys_kp (idsS_mem hb'.1.2 x hx r hr)⟩⟩
  ·cases h
 ·cases h
def runC (R : FuncId → List PV → List SE → Option CallRes) (H : Code → PS → Option PS) (np rl : Nat) : Nat → List (Nat × Nat) → Nat → C → PS → Option (Lv × PS)
 | 0, _, _, _, _ => none
 | k + 1, E, m, c, s => match c with
   | .skip => some (.nrm, s)
   | .reg ins => match runI R false 0 ins s with
     | some s' => some (.nrm, s')
     | none => none
   | .drw ins ps => match s with
     | ⟨n, fr, st, ok, _⟩ => match runI R true 0 ins ⟨n, fr, st, ok, fun _ => none⟩ with
       | some ⟨n', fr', st', ok', log'⟩ => match apartOk log' ps with
         | true => some (.nrm, ⟨n', fr', st', ok', fun _ => none⟩)
         | false => none
       | none => none
   | .seq a b => match runC R H np rl k E (mC rl E b m) a s.tr with
     | some (.nrm, s1) => runC R H np rl k E m b s1.tr
     | some (.ex i, s1) => some (.ex i, s1)
     | some (.ret, s1) => some (.ret, s1)
     | none => none
   | .cond c x y => match s with
     | ⟨n, fr, st, _, log⟩ => match A.val fr c with
       | some (.bool true) => runC R H np rl k E m x ⟨n, fr, st, True, log⟩
       | some (.bool false) => runC R H np rl k E m y ⟨n, fr, st, True, log⟩
       | _ => none
   | .block id b => match runC R H np rl k ((id, m) :: E) m b s.tr with
     | some (.nrm, s1) => some (.nrm, s1)
     | some (.ex i, s1) => match Nat.beq i id with
       | true => some (.nrm, s1)
       | false => some (.ex i, s1)
     | some (.ret, s1) => some (.ret, s1)
     | none => none
   | .loop b => match gcP np (mC rl E b 0) s with
     | some s0 => match runC R H np rl k E (mC rl E b 0) b s0.tr with
       | some (.nrm, s1) => runC R H np rl k E m (.loop b) s1.tr
       | some (.ex i, s1) => some (.ex i, s1)
       | some (.ret, s1) => some (.ret, s1)
       | none => none
     | none => none
   | .exit id => some (.ex id, s)
   | .ret => some (.ret, s)
   | .raw c => match H c s.tr with
     | some s' => some (.nrm, s')
     | none => none
   | .scope b => match b.labOf with
     | none => match runC R H np rl k E m b s.tr with
       | some (.nrm, s1) => some (.nrm, s1)
       | some (.ex i, s1) => match Nat.ble 1000000 i with
         | true => none
         | false => some (.ex i, s1)
       | some (.ret, s1) => some (.ret, s1)
       | none => none
     | some _ => none
   | _ => none
section
variable {P : Program} {wr : Bool} {np : Nat}
theorem LSem.mono {c : C} {Q Q' : Lv → PS → Prop} {s : PS} (h : LSem P wr np c Q s) (hm : ∀ l t, Q l t → Q' l t) : LSem P wr np c Q' s := by
 intro hQ code hc X w0 may a w γ hX hR
 refine wp_mono (h (fun l t hq => hQ l t (hm l t hq)) code hc X w0 may a w γ hX hR) ?_
 rintro e a' w' ⟨lv, s', γ', he, hq, hR'⟩
 exact ⟨lv, s', γ', he, hm _ _ hq, hR'⟩
theorem LSem.tr {c : C} {Q : Lv → PS → Prop} {s : PS} (h : LSem P wr np c Q s.tr) : LSem P wr np c Q s := by
 intro hQ code hc X w0 may a w γ hX hR
 obtain ⟨n, fr, st, ok, log⟩ := s
 exact h hQ code hc X w0 may a w γ hX ⟨hR.1, hR.2, hR.3, hR.4, hR.5, hR.6, hR.7, hR.8, hR.9, hR.10, hR.11⟩
theorem LSem.loopRun {b : C} {Q : Lv → PS → Prop} {s : PS} (I : Nat → PS → Prop) (k0 : Nat) (h0 : I k0 s) (hr : ∀ k t, I k t → LSem P wr np b (fun lv s' => match lv with
  | .nrm => s'.ok ∧ ∃ k', I k' s' ∧ k' < k
  | .ex i => Q (.ex i) s'
  | .ret => Q .ret s') t) : LSem P wr np (.loop b) Q s := by
 intro hQ code hc X w0 may a w γ hX hR
 have : ∃ p, code = .loop p ∧ comp P wr p = some b.er := by
  cases code with
  | loop p =>
    simp only [comp, C.er, Option.map_eq_some_iff, C.loop.injEq] at hc
    obtain ⟨b', hb, rfl⟩ := hc
    exact ⟨p, rfl, hb⟩
  | region id ops dr => cases dr <;> simp only [comp, C.er] at hc <;> (repeat' (split at hc)) <;> simp_all
  | _ => simp only [comp, C.er] at hc <;> (repeat' (split at hc)) <;> simp_all
 obtain ⟨p, rfl, hp⟩ := this
 refine wp_loop_by (fun k a w => ∃ t, I k t ∧ ∃ γ, Rel X w0 may a w t γ) id k0 ⟨s, h0, γ, hR⟩ ?_
 rintro k a w ⟨t, hI, γ, hR⟩
 have h1 := hr k t hI (fun lv s' hs => by
  cases lv with
  | nrm => exact hs.1
  | ex i => exact hQ _ _ hs
  | ret => exact hQ _ _ hs) p hp X w0 may a w γ hX hR
 refine wp_mono h1 ?_
 rintro e a' w' ⟨lv, s', γ', he, hq', hR'⟩
 cases e
 ·cases he
  obtain ⟨_, k', hk', hlt⟩ := hq'
  exact ⟨k', ⟨s', hk', γ', hR'⟩, hlt⟩
 ·obtain ⟨hb, rfl⟩ := lvOf_exit he; exact ⟨_, _, _, he, hq', hR'⟩
 ·cases he; exact ⟨_, _, _, rfl, hq', hR'⟩
 ·cases he; exact ⟨_, _, _, rfl, hq', hR'⟩
 ·cases he
 ·cases he
def Runs (P : Program) (wr : Bool) (np : Nat) (c : C) (s : PS) (lv : Lv) (s' : PS) : Prop := s'.ok ∧ LSem P wr np c (fun l t => l = lv ∧ t = s') s
theorem Runs.to {c : C} {s s' : PS} {lv : Lv} {Q : Lv → PS → Prop} (h : Runs P wr np c s lv s') (hq : Q lv s') : LSem P wr np c Q s :=
 h.2.mono fun l t ⟨h1, h2⟩ => by rw [h1, h2]; exact hq
theorem runC_sound {rl : Nat} (hmix : P.follows .mixedOrders = true) {R : FuncId → List PV → List SE → Option CallRes} {H : Code → PS → Option PS} (hR : ∀ f args bs c, R f args bs = some c → PureCall P f args bs c)
  (hH : ∀ c s s', H c s = some s' → Runs P wr np (.raw c) s .nrm s') : ∀ (k : Nat) (E : List (Nat × Nat)) (m : Nat) (c : C) (s s' : PS) (lv : Lv), runC R H np rl k E m c s = some (lv, s') → s.ok → Runs P wr np c s lv s' := by
 intro k
 induction k using Nat.strongRecOn with
 | ind k ihs =>
 cases k with
 | zero => intro E m c s s' lv h; simp [runC] at h
 | succ k =>
   have ih := ihs k (Nat.lt_succ_self k)
   intro E m c s s' lv h hok
   obtain ⟨n, fr, st, ok, log⟩ := s
   cases c with
   | skip =>
     simp only [runC, Option.some.injEq, Prod.mk.injEq] at h
     obtain ⟨rfl, rfl⟩ := h
     exact ⟨hok, LSem.of_vc hmix ⟨rfl, rfl⟩⟩
   | reg ins =>
     simp only [runC] at h
     split at h
     ·rename_i s1 h1
      simp only [Option.some.injEq, Prod.mk.injEq] at h
      obtain ⟨rfl, rfl⟩ := h
      obtain ⟨g1, g2⟩ := runI_sound hR h1 hok
      exact ⟨g1, LSem.of_vc hmix (g2 _ ⟨rfl, rfl⟩)⟩
     ·cases h
   | drw ins ps =>
     simp only [runC] at h
     split at h
     ·rename_i n' fr' st' ok' log' h1
      split at h
      ·rename_i ha
       simp only [Option.some.injEq, Prod.mk.injEq] at h
       obtain ⟨rfl, rfl⟩ := h
       obtain ⟨g1, g2⟩ := runI_sound hR h1 hok
       exact ⟨g1, LSem.of_vc hmix (g2 _ ⟨ha, rfl, rfl⟩)⟩
      ·cases h
     ·cases h
   | seq a b =>
     simp only [runC, PS.tr] at h
     have key : ∀ (Q : Lv → PS → Prop), LSem P wr np a (fun e s' => match e with
       | .nrm => vc (PureCall P) (LSem P wr np) (.cut b) Q s'
       | .ex i => Q (.ex i) s'
       | .ret => Q .ret s') ⟨n, fr, st, True, log⟩ → LSem P wr np (.seq a b) Q ⟨n, fr, st, ok, log⟩ := fun Q hq =>
      LSem.of_vc (c := .seq (.cut a) (.cut b)) hmix ⟨hok, hq⟩
     split at h
     ·rename_i s1 h1
      have r1 := ih _ _ a _ _ _ h1 trivial
      obtain ⟨n1, fr1, st1, ok1, log1⟩ := s1
      have r2 := ih _ _ b _ _ _ h trivial
      exact ⟨r2.1, key _ (r1.to ⟨r1.1, r2.to ⟨rfl, rfl⟩⟩)⟩
     ·rename_i i s1 h1
      simp only [Option.some.injEq, Prod.mk.injEq] at h
      obtain ⟨rfl, rfl⟩ := h
      have r1 := ih _ _ a _ _ _ h1 trivial
      exact ⟨r1.1, key _ (r1.to ⟨rfl, rfl⟩)⟩
     ·rename_i s1 h1
      simp only [Option.some.injEq, Prod.mk.injEq] at h
      obtain ⟨rfl, rfl⟩ := h
      have r1 := ih _ _ a _ _ _ h1 trivial
      exact ⟨r1.1, key _ (r1.to ⟨rfl, rfl⟩)⟩
     ·cases h
   | cond c x y =>
     simp only [runC] at h
     split at h
     ·rename_i hv
      have r1 := ih _ _ x _ _ _ h trivial
      refine ⟨r1.1, LSem.of_vc (c := .cond c (.cut x) (.cut y)) hmix ?_⟩
      simp only [vc, hv]
      exact ⟨hok, fun _ => ⟨trivial, r1.to ⟨rfl, rfl⟩⟩, fun h => (by cases h)⟩
     ·rename_i hv
      have r1 := ih _ _ y _ _ _ h trivial
      refine ⟨r1.1, LSem.of_vc (c := .cond c (.cut x) (.cut y)) hmix ?_⟩
      simp only [vc, hv]
      exact ⟨hok, fun h => (by cases h), fun _ => ⟨trivial, r1.to ⟨rfl, rfl⟩⟩⟩
     ·cases h
   | block id b =>
     simp only [runC, PS.tr] at h
     have key : ∀ (Q : Lv → PS → Prop), LSem P wr np b (fun e s' => match e with
       | .nrm => Q .nrm s'
       | .ex i => match Nat.beq i id with
         | true => Q .nrm s'
         | false => Q (.ex i) s'
       | .ret => Q .ret s') ⟨n, fr, st, True, log⟩ → LSem P wr np (.block id b) Q ⟨n, fr, st, ok, log⟩ := fun Q hq =>
      LSem.of_vc (c := .block id (.cut b)) hmix ⟨hok, hq⟩
     split at h
     ·rename_i s1 h1
      simp only [Option.some.injEq, Prod.mk.injEq] at h
      obtain ⟨rfl, rfl⟩ := h
      have r1 := ih _ _ b _ _ _ h1 trivial
      exact ⟨r1.1, key _ (r1.to ⟨rfl, rfl⟩)⟩
     ·rename_i i s1 h1
      have r1 := ih _ _ b _ _ _ h1 trivial
      split at h
      ·rename_i hb
       simp only [Option.some.injEq, Prod.mk.injEq] at h
       obtain ⟨rfl, rfl⟩ := h
       exact ⟨r1.1, key _ (r1.to (by simp [hb]))⟩
      ·rename_i hb
       simp only [Option.some.injEq, Prod.mk.injEq] at h
       obtain ⟨rfl, rfl⟩ := h
       exact ⟨r1.1, key _ (r1.to (by simp [hb]))⟩
     ·rename_i s1 h1
      simp only [Option.some.injEq, Prod.mk.injEq] at h
      obtain ⟨rfl, rfl⟩ := h
      have r1 := ih _ _ b _ _ _ h1 trivial
      exact ⟨r1.1, key _ (r1.to ⟨rfl, rfl⟩)⟩
     ·cases h
   | loop b =>
     have htr : ∀ (j : Nat) (t : PS), runC R H np rl j E m (.loop b) t.tr = runC R H np rl j E m (.loop b) t := fun j t => by cases j <;> rfl
     have hgc : ∀ (mm : Nat) (t t0 : PS), gcP np mm t = some t0 → t0.tr = t0 ∧ ∀ (c : C) (Q : Lv → PS → Prop), LSem P wr np c Q t0 → LSem P wr np c Q t := fun mm t t0 hg => by
      obtain ⟨g1, g2⟩ := gcP_ok hg
      refine ⟨by rw [g1]; rfl, fun c Q hq => LSem.weak g2 ?_⟩
      rw [← g1]; exact hq
     have hall : ∀ (j : Nat), j ≤ k + 1 → ∀ t, runC R H np rl j E m (.loop b) t = some (lv, s') → s'.ok := by
      intro j
      induction j with
      | zero => intro _ t ht; simp [runC] at ht
      | succ j ihj =>
        intro hj t ht
        simp only [runC] at ht
        split at ht
        ·rename_i t0 hg
         split at ht
         ·rename_i s1 h1
          exact ihj (by omega) _ ht
         ·rename_i i s1 h1
          simp only [Option.some.injEq, Prod.mk.injEq] at ht
          obtain ⟨rfl, rfl⟩ := ht
          exact (ihs j (by omega) _ _ b _ _ _ h1 trivial).1
         ·rename_i s1 h1
          simp only [Option.some.injEq, Prod.mk.injEq] at ht
          obtain ⟨rfl, rfl⟩ := ht
          exact (ihs j (by omega) _ _ b _ _ _ h1 trivial).1
         ·cases ht
        ·cases ht
     refine ⟨hall _ (Nat.le_refl _) _ h, LSem.loopRun (fun j t => j ≤ k + 1 ∧ runC R H np rl j E m (.loop b) t = some (lv, s')) (k + 1) ⟨Nat.le_refl _, h⟩ ?_⟩
     rintro j t ⟨hj, ht⟩
     cases j with
     | zero => simp [runC] at ht
     | succ j =>
       simp only [runC] at ht
       split at ht
       ·rename_i t0 hg
        obtain ⟨g1, g2⟩ := hgc _ _ _ hg
        refine g2 _ _ ?_
        rw [g1] at ht
        split at ht
        ·rename_i s1 h1
         have r1 := ihs j (by omega) _ _ b _ _ _ h1 (by rw [← g1]; trivial)
         exact (r1.to ⟨r1.1, j, ⟨by omega, by rw [← htr]; exact ht⟩, by omega⟩)
        ·rename_i i s1 h1
         simp only [Option.some.injEq, Prod.mk.injEq] at ht
         obtain ⟨rfl, rfl⟩ := ht
         have r1 := ihs j (by omega) _ _ b _ _ _ h1 (by rw [← g1]; trivial)
         exact (r1.to ⟨rfl, rfl⟩)
        ·rename_i s1 h1
         simp only [Option.some.injEq, Prod.mk.injEq] at ht
         obtain ⟨rfl, rfl⟩ := ht
         have r1 := ihs j (by omega) _ _ b _ _ _ h1 (by rw [← g1]; trivial)
         exact (r1.to ⟨rfl, rfl⟩)
        ·cases ht
       ·cases ht
   | exit id =>
     simp only [runC, Option.some.injEq, Prod.mk.injEq] at h
     obtain ⟨rfl, rfl⟩ := h
     exact ⟨hok, LSem.of_vc hmix ⟨rfl, rfl⟩⟩
   | ret =>
     simp only [runC, Option.some.injEq, Prod.mk.injEq] at h
     obtain ⟨rfl, rfl⟩ := h
     exact ⟨hok, LSem.of_vc hmix ⟨rfl, rfl⟩⟩
   | raw c =>
     simp only [runC, PS.tr] at h
     split at h
     ·rename_i s1 h1
      simp only [Option.some.injEq, Prod.mk.injEq] at h
      obtain ⟨rfl, rfl⟩ := h
      have r1 := hH _ _ _ h1
      exact ⟨r1.1, LSem.of_vc (c := .raw c) hmix ⟨hok, r1.2⟩⟩
     ·cases h
   | scope b =>
     simp only [runC, PS.tr] at h
     split at h
     ·rename_i hl
      have key : ∀ (Q : Lv → PS → Prop), LSem P wr np b (outs Q) ⟨n, fr, st, True, log⟩ → LSem P wr np (.scope b) Q ⟨n, fr, st, ok, log⟩ := fun Q hq => by
       refine LSem.of_vc (c := .scope (.cut b)) hmix ?_
       simp only [vc, C.labOf, hl]
       exact ⟨hok, hq⟩
      split at h
      ·rename_i s1 h1
       simp only [Option.some.injEq, Prod.mk.injEq] at h
       obtain ⟨rfl, rfl⟩ := h
       have r1 := ih _ _ b _ _ _ h1 trivial
       exact ⟨r1.1, key _ (r1.to ⟨rfl, rfl⟩)⟩
      ·rename_i i s1 h1
       split at h
       ·cases h
       ·rename_i hb
        simp only [Option.some.injEq, Prod.mk.injEq] at h
        obtain ⟨rfl, rfl⟩ := h
        have r1 := ih _ _ b _ _ _ h1 trivial
        exact ⟨r1.1, key _ (r1.to (by simp [outs, hb]))⟩
      ·rename_i s1 h1
       simp only [Option.some.injEq, Prod.mk.injEq] at h
       obtain ⟨rfl, rfl⟩ := h
       have r1 := ih _ _ b _ _ _ h1 trivial
       exact ⟨r1.1, key _ (r1.to ⟨rfl, rfl⟩)⟩
      ·cases h
     ·cases h
   | cut b => simp [runC] at h
   | bad => simp [runC] at h
   | lab l => simp [runC] at h
   | gto l => simp [runC] at h
end
end Pv
end Go.Proofs.YtdcgnfkkklbckaaGreatDoor
/- RUNS: a call that is run on known values has a contract. -/
set_option linter.unusedSimpArgs false
set_option linter.unusedVariables false
namespace Go.Proofs.YtdcgnfkkklbckaaGreatDoor
namespace Pv
open Go.RowKit
mutual
theorem ren_of {ρ : Nat → Nat} : ∀ (p : PV), (∀ r ∈ p.ids, ρ r = r) → p.ren ρ = p
 | .os r, h => by rw [PV.ren, h r (by simp [PV.ids])]
 | .vw _ r _ _, h => by rw [PV.ren, h r (by simp [PV.ids])]
 | .rf _ r, h => by rw [PV.ren, h r (by simp [PV.ids])]
 | .pt r _ _, h => by rw [PV.ren, h r (by simp [PV.ids])]
 | .agg cs, h => by rw [PV.ren, ren_ofL cs h]
 | .tup cs, h => by rw [PV.ren, ren_ofL cs h]
 | .fn f a b, h => by rw [PV.ren, ren_ofL a (fun r hr => h r (by simp [PV.ids, hr])), ren_ofL b (fun r hr => h r (by simp [PV.ids, hr]))]
 | .cnd g p, h => by rw [PV.ren, ren_of p h]
 | .mpv .., _ => rfl
 | .int .., _ => rfl
 | .bool _, _ => rfl
 | .str _, _ => rfl
 | .sl .., _ => rfl
 | .nil _, _ => rfl
 | .rp .., _ => rfl
 | .raw _, _ => rfl
 | .junk, _ => rfl
theorem ren_ofL {ρ : Nat → Nat} : ∀ (l : List PV), (∀ r ∈ PV.idsL l, ρ r = r) → PV.renL ρ l = l
 | [], _ => rfl
 | p :: ps, h => by rw [PV.renL, ren_of p (fun r hr => h r (by simp [PV.idsL, hr])), ren_ofL ps (fun r hr => h r (by simp [PV.idsL, hr]))]
end
mutual
def convV (st : Nat → Option SE) (np : Nat) : PV → Option PV
 | .os r => match Nat.blt r np with
   | true => none
   | false => match st r with
     | some (.row τ _ z n f) => some (.sl τ z n f)
     | _ => none
 | .agg cs => match convL st np cs with
   | some cs' => some (.agg cs')
   | none => none
 | .tup cs => match convL st np cs with
   | some cs' => some (.tup cs')
   | none => none
 | .fn f a b => match convL st np a, convL st np b with
   | some a', some b' => some (.fn f a' b')
   | _, _ => none
 | .pt r i j => match Nat.blt r np with
   | true => some (.pt r i j)
   | false => none
 | .rf m r => match Nat.blt r np with
   | true => some (.rf m r)
   | false => none
 | .vw .. => none
 | .cnd _ _ => none
 | .mpv ks vks ka va h f => some (.mpv ks vks ka va h f)
 | .int k n => some (.int k n)
 | .bool b => some (.bool b)
 | .str s => some (.str s)
 | .sl τ z n f => some (.sl τ z n f)
 | .nil z => some (.nil z)
 | .rp τ cs => some (.rp τ cs)
 | .raw v => some (.raw v)
 | .junk => some .junk
def convL (st : Nat → Option SE) (np : Nat) : List PV → Option (List PV)
 | [] => some []
 | p :: ps => match convV st np p, convL st np ps with
   | some q, some qs => some (q :: qs)
   | _, _ => none
end
theorem kp_lo {np r : Nat} (h : Nat.blt r np = true) : kpR np [] r = true := by unfold kpR; rw [h]
theorem kp_hi {np r : Nat} (h : Nat.blt r np = false) : kpR np [] r = false := by unfold kpR; rw [h]; rfl
theorem blt_lo {np r : Nat} (h : Nat.blt r np = true) : r < np := by rwa [Nat.blt_eq] at h
mutual
theorem convV_ok {st : Nat → Option SE} {np : Nat} : ∀ (p q : PV), convV st np p = some q → PLe st (kpR np []) p q ∧ ∀ r ∈ q.ids, r < np
 | .os r, q, h => by
   simp only [convV] at h
   split at h
   ·cases h
   ·rename_i hb
    split at h
    ·rename_i τ e z n f hs
     injection h with h; subst h
     refine ⟨?_, fun r hr => by simp [PV.ids] at hr⟩
     simp only [PLe]
     refine ⟨kp_hi hb, ?_⟩
     rw [hs]
     exact ⟨Nat.le_refl _, rfl, rfl, fun _ _ => rfl⟩
    ·cases h
 | .agg cs, q, h => by
   simp only [convV] at h
   split at h
   ·rename_i cs' hc
    injection h with h; subst h
    have := convL_ok cs cs' hc
    exact ⟨by simp only [PLe]; exact this.1, this.2⟩
   ·cases h
 | .tup cs, q, h => by
   simp only [convV] at h
   split at h
   ·rename_i cs' hc
    injection h with h; subst h
    have := convL_ok cs cs' hc
    exact ⟨by simp only [PLe]; exact this.1, this.2⟩
   ·cases h
 | .fn f a b, q, h => by
   simp only [convV] at h
   split at h
   ·rename_i a' b' ha hb
    injection h with h; subst h
    have h1 := convL_ok a a' ha
    have h2 := convL_ok b b' hb
    refine ⟨by simp only [PLe]; exact ⟨trivial, h1.1, h2.1⟩, fun r hr => ?_⟩
    simp only [PV.ids, List.mem_append] at hr
    exact hr.elim (h1.2 r) (h2.2 r)
   ·cases h
 | .pt r i j, q, h => by
   simp only [convV] at h
   split at h
   ·rename_i hb
    injection h with h; subst h
    exact ⟨by simp only [PLe]; exact ⟨trivial, trivial, trivial, kp_lo hb⟩, fun r hr => by simp only [PV.ids, List.mem_singleton] at hr; subst hr; exact blt_lo hb⟩
   ·cases h
 | .rf m r, q, h => by
   simp only [convV] at h
   split at h
   ·rename_i hb
    injection h with h; subst h
    exact ⟨by simp only [PLe]; exact ⟨trivial, trivial, kp_lo hb⟩, fun r hr => by simp only [PV.ids, List.mem_singleton] at hr; subst hr; exact blt_lo hb⟩
   ·cases h
 | .vw .., q, h => by simp [convV] at h
 | .cnd _ _, q, h => by simp [convV] at h
 | .mpv .., q, h => by
   simp only [convV, Option.some.injEq] at h; subst h
   exact ⟨by simp only [PLe]; exact ⟨trivial, trivial, trivial, trivial, fun _ _ => ⟨rfl, rfl⟩⟩, fun r hr => by simp [PV.ids] at hr⟩
 | .int .., q, h => by
   simp only [convV, Option.some.injEq] at h; subst h
   exact ⟨by simp only [PLe]; exact ⟨trivial, trivial⟩, fun r hr => by simp [PV.ids] at hr⟩
 | .bool _, q, h => by
   simp only [convV, Option.some.injEq] at h; subst h
   exact ⟨by simp only [PLe], fun r hr => by simp [PV.ids] at hr⟩
 | .str _, q, h => by
   simp only [convV, Option.some.injEq] at h; subst h
   exact ⟨by simp only [PLe], fun r hr => by simp [PV.ids] at hr⟩
 | .sl .., q, h => by
   simp only [convV, Option.some.injEq] at h; subst h
   exact ⟨by simp only [PLe]; exact ⟨Nat.le_refl _, trivial, trivial, fun _ _ => rfl⟩, fun r hr => by simp [PV.ids] at hr⟩
 | .nil _, q, h => by
   simp only [convV, Option.some.injEq] at h; subst h
   exact ⟨by simp only [PLe], fun r hr => by simp [PV.ids] at hr⟩
 | .rp .., q, h => by
   simp only [convV, Option.some.injEq] at h; subst h
   exact ⟨by simp only [PLe]; exact ⟨Nat.le_refl _, trivial⟩, fun r hr => by simp [PV.ids] at hr⟩
 | .raw _, q, h => by
   simp only [convV, Option.some.injEq] at h; subst h
   exact ⟨by simp only [PLe], fun r hr => by simp [PV.ids] at hr⟩
 | .junk, q, h => by
   simp only [convV, Option.some.injEq] at h; subst h
   exact ⟨by simp only [PLe], fun r hr => by simp [PV.ids] at hr⟩
theorem convL_ok {st : Nat → Option SE} {np : Nat} : ∀ (l m : List PV), convL st np l = some m → PLeL st (kpR np []) l m ∧ ∀ r ∈ PV.idsL m, r < np
 | [], m, h => by
   simp only [convL, Option.some.injEq] at h; subst h
   exact ⟨by simp only [PLeL], fun r hr => by simp [PV.idsL] at hr⟩
 | p :: ps, m, h => by
   simp only [convL] at h
   split at h
   ·rename_i q qs hq hqs
    injection h with h; subst h
    have h1 := convV_ok p q hq
    have h2 := convL_ok ps qs hqs
    refine ⟨by simp only [PLeL]; exact ⟨h1.1, h2.1⟩, fun r hr => ?_⟩
    simp only [PV.idsL, List.mem_append] at hr
    exact hr.elim (h1.2 r) (h2.2 r)
   ·cases h
end
def convS (st : Nat → Option SE) (np : Nat) : SE → Option SE
 | .box l => match convL st np l with
   | some l' => some (.box l')
   | none => none
 | .row .. => none
 | .bld T e s => some (.bld T e s)
theorem convS_ok {st : Nat → Option SE} {np : Nat} {e e' : SE} (h : convS st np e = some e') : SLe st (kpR np []) e e' ∧ ∀ r ∈ e'.ids, r < np := by
 cases e with
 | box l =>
   simp only [convS] at h
   split at h
   ·rename_i l' hl
    injection h with h; subst h
    exact convL_ok l l' hl
   ·cases h
 | row _ _ _ _ _ => simp [convS] at h
 | bld T e s =>
   simp only [convS, Option.some.injEq] at h; subst h
   exact ⟨⟨rfl, rfl, rfl⟩, fun r hr => by simp [SE.ids] at hr⟩
def convB (st : Nat → Option SE) (np : Nat) : Nat → Nat → Option (List SE)
 | 0, _ => some []
 | j + 1, k => match st k with
   | some e => match convS st np e, convB st np j (k + 1) with
     | some e', some l => some (e' :: l)
     | _, _ => none
   | none => none
theorem reN_lo {np r : Nat} (hn : np ≤ newBase) (h : r < np) : reN [] r = r := by
 unfold reN
 have : Nat.ble newBase r = false := by rw [Bool.eq_false_iff]; intro hh; have := Nat.le_of_ble_eq_true hh; omega
 rw [this]
theorem sren_of {ρ : Nat → Nat} {e : SE} (h : ∀ r ∈ e.ids, ρ r = r) : e.ren ρ = e := by
 cases e with
 | box l => rw [SE.ren, ren_ofL l h]
 | row _ _ _ _ _ => rfl
 | bld _ _ _ => rfl
theorem convB_ok {st : Nat → Option SE} {np : Nat} (hn : np ≤ newBase) : ∀ (j k : Nat) (l : List SE), convB st np j k = some l → leBox st (kpR np []) [] k l ∧ l.length = j ∧ ∀ e ∈ l, ∀ r ∈ e.ids, r < np
 | 0, k, l, h => by
   simp only [convB, Option.some.injEq] at h; subst h
   exact ⟨trivial, rfl, fun e he => by simp at he⟩
 | j + 1, k, l, h => by
   simp only [convB] at h
   split at h
   ·rename_i e he
    split at h
    ·rename_i e' l' h1 h2
     injection h with h; subst h
     have g1 := convS_ok h1
     have g2 := convB_ok hn j (k + 1) l' h2
     refine ⟨⟨?_, g2.1⟩, by simp [g2.2.1], fun x hx => ?_⟩
     ·rw [he, sren_of (fun r hr => reN_lo hn (g1.2 r hr))]; exact g1.1
     ·rcases List.mem_cons.1 hx with rfl | hx
      ·exact g1.2
      ·exact g2.2.2 x hx
    ·cases h
   ·cases h
theorem inRes_lo {np : Nat} : ∀ {l : List Nat}, (∀ r ∈ l, r < np) → inRes np 0 l = true
 | [], _ => rfl
 | r :: l, h => by
   have h1 : Nat.blt r np = true := by rw [Nat.blt_eq]; exact h r (by simp)
   simp only [inRes, h1, Bool.true_or]
   exact inRes_lo fun x hx => h x (by simp [hx])
theorem inResS_lo {np : Nat} : ∀ {l : List SE}, (∀ e ∈ l, ∀ r ∈ e.ids, r < np) → inResS np 0 l = true
 | [], _ => rfl
 | e :: l, h => by
   simp only [inResS, inRes_lo (h e (by simp))]
   exact inResS_lo fun x hx => h x (by simp [hx])
def C.uncut : C → Bool
 | .seq a b => a.uncut && b.uncut
 | .cond _ x y => x.uncut && y.uncut
 | .block _ b => b.uncut
 | .loop b => b.uncut
 | .scope b => b.uncut
 | .cut _ => false
 | _ => true
theorem C.uncut_er : ∀ (c : C), c.uncut = true → c.er = c
 | .seq a b, h => by
   simp only [C.uncut, Bool.and_eq_true] at h
   rw [C.er, C.uncut_er a h.1, C.uncut_er b h.2]
 | .cond _ x y, h => by
   simp only [C.uncut, Bool.and_eq_true] at h
   rw [C.er, C.uncut_er x h.1, C.uncut_er y h.2]
 | .block _ b, h => by rw [C.er, C.uncut_er b h]
 | .loop b, h => by rw [C.er, C.uncut_er b h]
 | .scope b, h => by rw [C.er, C.uncut_er b h]
 | .skip, _ => rfl
 | .reg _, _ => rfl
 | .drw _ _, _ => rfl
 | .exit _, _ => rfl
 | .ret, _ => rfl
 | .raw _, _ => rfl
 | .bad, _ => rfl
 | .lab _, _ => rfl
 | .gto _, _ => rfl
 | .cut _, h => by simp [C.uncut] at h
abbrev Orc := FuncId → List PV → List SE → Option CallRes
def OrcOK (P : Program) (R : Orc) : Prop := ∀ f args bs c, R f args bs = some c → PureCall P f args bs c
def runEnd (rs : List RV) (np : Nat) (s : PS) : Option CallRes := match s with
 | ⟨_, fr, st, _, _⟩ => match rvL fr st rs with
   | some ps => match convV st np (tupOf ps), convB st np np 0 with
     | some v, some l => some ⟨v, l, []⟩
     | _, _ => none
   | none => none
def runBody (P : Program) (R : Orc) (H : Code → PS → Option PS) (k : Nat) (fn : Func) (args : List PV) (bs : List SE) : Option CallRes :=
 match fn.body, mapO (compR P) fn.results.toList with
 | some code, some rs => match comp P false code with
   | some cc => match cc.uncut && !(bs.any SE.isRow) && !(fn.name == "runtime.NumGoroutine") && Nat.ble (nbx bs) newBase with
     | true => match runC R H (nbx bs) (mAs (rs.map fun r => A.t r.1) 0) k [] (mAs (rs.map fun r => A.t r.1) 0) cc (St (args.length + (fn.ntmps - args.length)) (argF 0 args) (boxF 0 bs)) with
       | some (.nrm, s) => runEnd rs (nbx bs) s
       | some (.ret, s) => runEnd rs (nbx bs) s
       | _ => none
     | false => none
   | none => none
 | _, _ => none
theorem runEnd_ok {rs : List RV} {np : Nat} {s : PS} {c : CallRes} (hn : np ≤ newBase) (h : runEnd rs np s = some c) : ∃ ids, ResOK rs np c ids s := by
 obtain ⟨n, fr, st, ok, log⟩ := s
 simp only [runEnd] at h
 split at h
 ·rename_i ps hps
  split at h
  ·rename_i v l hv hl
   injection h with h; subst h
   refine ⟨[], ?_⟩
   simp only [ResOK, hps]
   have g1 := convV_ok _ _ hv
   have g2 := convB_ok hn _ _ _ hl
   refine ⟨?_, ?_, g2.1, trivial⟩
   ·simp only [Bool.and_eq_true]
    refine ⟨⟨⟨⟨⟨⟨rfl, rfl⟩, ?_⟩, Nat.ble_eq_true_of_le hn⟩, inRes_lo g1.2⟩, inResS_lo g2.2.2⟩, rfl⟩
    rw [g2.2.1]; exact Nat.beq_refl _
   ·rw [ren_of _ (fun r hr => reN_lo hn (g1.2 r hr))]; exact g1.1
  ·cases h
 ·cases h
theorem runBody_ok {P : Program} (hmix : P.follows .mixedOrders = true) {R : Orc} {H : Code → PS → Option PS} {k : Nat} {f : FuncId} {fn : Func} {args : List PV} {bs : List SE} {c : CallRes} (hf : P.funcs[f]? = some fn)
  (hR : OrcOK P R) (hH : ∀ np c s s', H c s = some s' → Runs P false np (.raw c) s .nrm s') (h : runBody P R H k fn args bs = some c) : PureBody P f args bs c := by
 unfold runBody at h
 split at h
 ·rename_i code rs hb hrs
  split at h
  ·rename_i cc hcc
   split at h
   ·rename_i hg
    simp only [Bool.and_eq_true, Bool.not_eq_true'] at hg
    obtain ⟨⟨⟨h1, h2⟩, h3⟩, h4⟩ := hg
    have hn := Nat.le_of_ble_eq_true h4
    refine pure_body (wr := false) (cc := .cut cc) (rs := rs) (n := args.length + (fn.ntmps - args.length)) hmix hf ?_ (by unfold okBs; rw [h2]; rfl) ?_
    ·unfold fits
     rw [hb, hrs]
     simp only [C.er, C.uncut_er cc h1]
     rw [if_pos ⟨trivial, trivial, h3⟩, hcc]
    ·refine ⟨trivial, ?_⟩
     split at h
     ·rename_i s hs
      exact (runC_sound hmix hR (hH _) k _ _ cc _ _ _ hs trivial).to ⟨(runC_sound hmix hR (hH (nbx bs)) k _ _ cc _ _ _ hs trivial).1, runEnd_ok hn h⟩
     ·rename_i s hs
      exact (runC_sound hmix hR (hH _) k _ _ cc _ _ _ hs trivial).to ⟨(runC_sound hmix hR (hH (nbx bs)) k _ _ cc _ _ _ hs trivial).1, runEnd_ok hn h⟩
     ·cases h
   ·cases h
  ·cases h
 ·cases h
end Pv
end Go.Proofs.YtdcgnfkkklbckaaGreatDoor
/- RUNS: functions that begin with deferred calls. -/
set_option linter.unusedSimpArgs false
set_option linter.unusedVariables false
namespace Go.Proofs.YtdcgnfkkklbckaaGreatDoor
namespace Pv
open Go.RowKit
section
variable {P : Program}
def CallsN (P : Program) (f : FuncId) (args : Array Value) (w : World) (R : Ending → World → Prop) : Prop := CallsD P f args .returning w fun e u' w' => u' = .returning ∧ R e w'
theorem callsN_mono (P : Program) : MonoC (CallsN P) := fun _ _ _ _ _ h hr => CallsD.mono h fun e u' w' ⟨h1, h2⟩ => ⟨h1, hr e w' h2⟩
theorem PureBody.callN {f : FuncId} {args : List PV} {bs : List SE} {c : CallRes} (h : PureBody P f args bs c) : PureCallC (CallsN P) P f args bs c :=
 ⟨h.1, fun w γ aas ls vals h1 h2 h3 => by
  obtain ⟨fn, cc, hf, hb, hw⟩ := h.2 w γ aas ls vals h1 h2 h3
  exact callsD_of_wp hf hb hw⟩
/-! ### the deferred calls of a context do not matter to what it says -/
theorem Rep.df {lo np : Nat} {aas0 ls : Nat → Prop} {g0 : Nat → Option GE} {d d' : List Deferred} {γ : Gh} {w : World} {p : PV} {v : Value} (h : Rep ⟨lo, aas0, ls, np, g0, d⟩ γ w p v) : Rep ⟨lo, aas0, ls, np, g0, d'⟩ γ w p v := by
 induction h with
 | int k n => exact .int k n
 | bool b => exact .bool b
 | str s => exact .str s
 | agg cs vs hl hc h ih => exact .agg cs vs hl hc ih
 | tup cs vs hl h ih => exact .tup cs vs hl ih
 | sl τ z n f ad cap vs hcap hz hf hb h ih => exact .sl τ z n f ad cap vs hcap hz hf hb ih
 | nil z => exact .nil z
 | os r ge hg h1 h2 => exact .os r ge hg h1 h2
 | vw h r lo n ge ad m cap hg hh hle h0 h2 => exact .vw h r lo n ge ad m cap hg hh hle h0 h2
 | pt r i j ge b hg hb => exact .pt r i j ge b hg hb
 | rf r ge b hg hb => exact .rf r ge b hg hb
 | rfs z n r ge b hg hb => exact .rfs z n r ge b hg hb
 | rp τ cs a vs hf hb hc h ih => exact .rp τ cs a vs hf hb hc ih
 | fn f first caps vs us hl hl' h h' ih ih' => exact .fn f first caps vs us hl hl' ih ih'
 | raw v h1 => exact .raw v h1
 | cnd g p v h hu ih => exact .cnd g p v ih hu
 | junk v => exact .junk v
theorem RepL.df {lo np : Nat} {aas0 ls : Nat → Prop} {g0 : Nat → Option GE} {d d' : List Deferred} {γ : Gh} {w : World} {ps : List PV} {vs : List Value} (h : RepL ⟨lo, aas0, ls, np, g0, d⟩ γ w ps vs) : RepL ⟨lo, aas0, ls, np, g0, d'⟩ γ w ps vs :=
 ⟨h.1, fun k c u h1 h2 => (h.2 k c u h1 h2).df⟩
theorem RepSt.df {lo np : Nat} {aas0 ls : Nat → Prop} {g0 : Nat → Option GE} {d d' : List Deferred} {γ : Gh} {w : World} {st : Nat → Option SE} (h : RepSt ⟨lo, aas0, ls, np, g0, d⟩ γ w st) : RepSt ⟨lo, aas0, ls, np, g0, d'⟩ γ w st := by
 refine ⟨h.dom, fun r ge e h1 h2 => ?_, h.inj, h.asOff, h.lt, h.glob⟩
 have h3 := h.at_ r ge e h1 h2
 cases e with
 | box l =>
   obtain ⟨b, k1, k2⟩ := h3
   refine ⟨b, k1, k2.imp ?_ id⟩
   rintro ⟨T, vs, q1, q2, q3⟩
   exact ⟨T, vs, q1, q2, q3.df⟩
 | row τ e z n f =>
   obtain ⟨vs, k1, k2, k3, k4, k5, k6, k7, k8⟩ := h3
   exact ⟨vs, k1, k2, k3, k4, k5, k6, k7, fun i j c u a1 a2 a3 => (k8 i j c u a1 a2 a3).df⟩
 | bld T e s => exact h3
/-! ### the calls that were put off -/
def defSt (RB : Orc) (F : FuncId) (st : Nat → Option SE) : Option (Nat → Option SE) := match st 0 with
 | some (.box l) => match lendCells l with
   | some l0 => match RB F [.pt 0 0 0] [.box l0] with
     | some ⟨_, [.box l1], []⟩ => match PV.idsL l1, natIn F givers, natIn F readers with
       | [], false, false => some (upd st 0 (.box l1))
       | _, _, _ => none
     | _ => none
   | none => none
 | _ => none
def defSts (RB : Orc) : List FuncId → (Nat → Option SE) → Option (Nat → Option SE)
 | [], st => some st
 | F :: Fs, st => match defSt RB F st with
   | some st' => defSts RB Fs st'
   | none => none
variable {X : Cx} {w0 : World} {may : Nat → Prop}
theorem voidF_nil' {p : PV} : p.void [] = p := by
 have := voidF_nil (fr := fun _ => some p)
 have h2 := congrFun this 0
 simpa [voidF] using h2
theorem leaves_run {fn : Func} {tmps : Array Value} {v : Value} {R : Ending → World → Prop} {RB : Orc} (hRB : ∀ f args bs c, RB f args bs = some c → PureBody P f args bs c) :
  ∀ (Fs : List FuncId) (a : Act) (w : World) (s : PS) (γ : Gh) (st' : Nat → Option SE), Rel X w0 may a w s γ → Rep X γ w (.pt 0 0 0) v → defSts RB Fs s.st = some st' →
  (∀ w' γ', Rel X w0 may a w' ⟨s.n, s.fr, st', True, fun _ => none⟩ γ' → ∃ u, (results fn tmps).run P w' = .ok u w' ∧ R (.returned u) w') →
  Leaves P fn tmps R (Fs.map fun F => ⟨.fn (.func F) #[], #[v]⟩) .returning w
 | [], a, w, s, γ, st', hR, hv, h, hK => by
   simp only [defSts, Option.some.injEq] at h; subst h
   exact hK w γ ⟨hR.1, hR.2, hR.3, hR.4, hR.5, hR.6, hR.7, hR.8, hR.9, hR.10, hR.11⟩
 | F :: Fs, a, w, s, γ, st', hR, hv, h, hK => by
   simp only [defSts] at h
   split at h
   ·rename_i st1 h1
    unfold defSt at h1
    split at h1
    ·rename_i l hl
     split at h1
     ·rename_i l0 hl0
      split at h1
      ·rename_i cv l1 hc
       split at h1
       ·rename_i hi hg hrd
        injection h1 with h1; subst h1
        have hpb := (hRB _ _ _ _ hc).callN
        have hE : callV (PureCallC (CallsN P) P) 16 ⟨cv, [.box l1], []⟩ (.fn (.func F) [] []) [.pt 0 0 0] [0] [.box l] = some ⟨PV.ren (backName [(0, .box l0)] 16) cv, [PureCallC (CallsN P) P F [.pt 0 0 0] [.box l0] ⟨cv, [.box l1], []⟩], [(0, .box l1)], [], [], []⟩ := by
         have e1 : PV.renL (backName [(0, .box l0)] 16) l1 = l1 := ren_ofL _ (fun r hr => by rw [hi] at hr; simp at hr)
         unfold callV callA
         simp [hg, hrd, lendL, lend, boxNo, boxesOf, hl0, sameKinds, SE.kind, SE.isRow, SE.ren, e1, newBase, fixAny]
        have hnew : newSt 16 [] [] [(0, .box l1)] [] s.st = some (upd s.st 0 (.box l1)) := by
         rw [newSt_eq]; simp [voidS_nil, rmS_nil, wrS, nwS]
        obtain ⟨id, first, caps, hfe, _, hC⟩ := call_soundC (C := CallsN P) (callsN_mono P) (fv := .func (.func F) #[] #[]) (avs := [v]) (st' := upd s.st 0 (.box l1)) hR.st hR.hX hR.heapLe hR.rowLo (.fn _ [] [] [] [] rfl rfl (fun _ _ _ h => by simp at h) (fun _ _ _ h => by simp at h)) (RepL.cons_ hv RepL.nil_) (by simp) (by simp [getL, hl]) hE ⟨hpb, trivial⟩ hnew
        simp only [Value.func.injEq, Fn.func.injEq] at hfe
        obtain ⟨rfl, rfl, rfl⟩ := hfe
        obtain ⟨⟨fn', hfn', hbody, hname⟩, _⟩ := hpb
        have hb : fn'.body ≠ none := by intro h; rw [h] at hbody; cases hbody
        have hnm : fn'.name ≠ "runtime.NumGoroutine" := by simpa using hname
        rw [List.map_cons]
        refine leaves_cons (f := F) (args := #[v]) (by simp) (by simp [invoke, callFunc, hfn', hb, hnm]) ?_
        have hargs : ((#[] ++ [v].toArray) ++ #[] : Array Value) = #[v] := by simp
        rw [hargs] at hC
        refine CallsD.mono hC ?_
        rintro e u' w' ⟨rfl, v1, γ', rfl, hE'⟩
        have hR' : Rel X w0 may a w' ⟨s.n, s.fr, upd s.st 0 (.box l1), True, fun _ => none⟩ γ' :=
         hR.after (s' := ⟨s.n, s.fr, upd s.st 0 (.box l1), True, fun _ => none⟩) (dst := none) hE' rfl fun t p hp => .inr ⟨by simp, p, hp, voidF_nil'.symm⟩
        have hv' : Rep X γ' w' (.pt 0 0 0) v := by
         have := hE'.old _ _ hv
         rwa [voidF_nil'] at this
        exact leaves_run hRB Fs a w' ⟨s.n, s.fr, upd s.st 0 (.box l1), True, fun _ => none⟩ γ' st' hR' hv' h fun w2 γ2 h2 => hK w2 γ2 h2
       ·cases h1
      ·cases h1
     ·cases h1
    ·cases h1
   ·cases h
/-! ### putting calls off -/
def dfOf : Code → Option (Nat × FuncId)
 | .region _ ops false => match ops.toList with
   | [o1, o2] => match o1.dst, o1.op, o1.guard, o2.dst, o2.op, o2.guard with
     | some t, .move (.tmp 0), none, none, .defer cl, none => match cl.callee, cl.args.toList with
       | .value (.func F), [.tmp t'] => if t' = t ∧ t ≠ 0 then some (t, F) else none
       | _, _ => none
     | _, _, _, _, _, _ => none
   | _ => none
 | _ => none
def dfs : Code → List (Nat × FuncId) × Code
 | .seq a b => match dfOf a with
   | some x => match dfs b with
     | (l, r) => (x :: l, r)
   | none => ([], .seq a b)
 | c => ([], c)
theorem df_wp {c : Code} {t : Nat} {F : FuncId} (h : dfOf c = some (t, F)) {Q : Exit → Act → World → Prop} {a : Act} {w : World} {v : Value} (h0 : a.tmps.getD 0 undef = v) (ht : t < a.tmps.size)
  (hQ : Q .normal { tmps := a.tmps.setIfInBounds t v, defers := ⟨.fn (.func F) #[], #[v]⟩ :: a.defers } w) : c.wp P Q a w := by
 unfold dfOf at h
 split at h
 ·rename_i id ops
  split at h
  ·rename_i o1 o2 ho
   split at h
   ·rename_i t1 cl d1 p1 g1 d2 p2 g2
    split at h
    ·rename_i F1 t2 hcl hargs
     split at h
     ·rename_i hc
      simp only [Option.some.injEq, Prod.mk.injEq] at h
      obtain ⟨rfl, rfl⟩ := h
      obtain ⟨rfl, hne⟩ := hc
      have hops : ops = #[o1, o2] := by apply Array.ext'; simpa using ho
      subst hops
      have hargs' : cl.args = #[.tmp t2] := by apply Array.ext'; simpa using hargs
      apply wp_region
      have h0' : a.eval (.tmp 0) = v := h0
      have e2 : (a.tmps.setIfInBounds t2 v).getD t2 undef = v := by simp [Array.getD_eq_getD_getElem?, ht]
      simp only [List.size_toArray, List.length_cons, List.length_nil, List.range_succ, List.range_zero, List.nil_append, List.cons_append, wpOps, List.getElem?_toArray, List.getElem?_cons_zero, List.getElem?_cons_succ, Region.wanted, g1, g2, if_true]
      left
      unfold Oper.wp
      have hr1 : (execOp a.eval o1).run P w = .ok (.value v) w := by
       unfold execOp; rw [p1]; simp [h0']
      rw [hr1, Oper.upon_value, d1]
      left
      have hr2 : (execOp (a.put (some t2) v).eval o2).run P w = .ok (.defer ⟨.fn (.func F1) #[], #[v]⟩) w := by
       unfold execOp; rw [p2]
       have e3 : (a.put (some t2) v).eval (.tmp t2) = v := e2
       have e4 : (a.put (some t2) v).eval (.func F1) = .func (.func F1) #[] #[] := rfl
       simp [resolve, hcl, hargs', Deferred.ofValue, e3, e4]
      rw [hr2, Oper.upon_defer, d2]
      exact hQ
     ·cases h
    ·cases h
   ·cases h
  ·cases h
 ·cases h
theorem dfs_wp {v : Value} : ∀ (c : Code) (l : List (Nat × FuncId)) (r : Code) {Q : Exit → Act → World → Prop} (a : Act) (w : World), dfs c = (l, r) → a.tmps.getD 0 undef = v → (∀ x ∈ l, x.1 < a.tmps.size ∧ x.1 ≠ 0) →
  (∀ a' : Act, a'.tmps.size = a.tmps.size → a'.tmps.getD 0 undef = v → a'.defers = (l.reverse.map fun x => ⟨.fn (.func x.2) #[], #[v]⟩) ++ a.defers → r.wp P Q a' w) → c.wp P Q a w := by
 intro c
 induction c with
 | seq x y ihx ihy =>
   intro l r Q a w h h0 hl hQ
   simp only [dfs] at h
   split at h
   ·rename_i p hp
    cases hy : dfs y with
    | mk l2 r2 =>
      rw [hy] at h
      simp only [Prod.mk.injEq] at h
      obtain ⟨rfl, rfl⟩ := h
      obtain ⟨t, F⟩ := p
      have ht := hl (t, F) (by simp)
      refine wp_seq ?_
      refine df_wp hp h0 ht.1 ?_
      refine ihy l2 r2 _ w hy ?_ (fun x hx => ?_) fun a' g1 g2 g3 => hQ a' ?_ g2 ?_
      ·have hne : t ≠ 0 := ht.2
       simp [Array.getD_eq_getD_getElem?, Array.getElem?_setIfInBounds_ne hne] at h0 ⊢
       exact h0
      ·have := hl x (by simp [hx]); simpa using this
      ·simpa using g1
      ·rw [g3]; simp
   ·simp only [Prod.mk.injEq] at h
    obtain ⟨rfl, rfl⟩ := h
    exact hQ a rfl h0 (by simp)
 | _ =>
   intro l r Q a w h h0 hl hQ
   simp only [dfs, Prod.mk.injEq] at h
   obtain ⟨rfl, rfl⟩ := h
   exact hQ a rfl h0 (by simp)
def okDf (n : Nat) : List (Nat × FuncId) → Bool
 | [] => true
 | x :: l => match Nat.blt x.1 n, Nat.beq x.1 0 with
   | true, false => okDf n l
   | _, _ => false
theorem okDf_ok {n : Nat} : ∀ {l : List (Nat × FuncId)}, okDf n l = true → ∀ x ∈ l, x.1 < n ∧ x.1 ≠ 0
 | [], _, x, hx => by simp at hx
 | y :: l, h, x, hx => by
   simp only [okDf] at h
   split at h
   ·rename_i h1 h2
    rcases List.mem_cons.1 hx with rfl | hx
    ·refine ⟨by rwa [Nat.blt_eq] at h1, fun h0 => ?_⟩
     rw [h0] at h2; cases h2
    ·exact okDf_ok h x hx
   ·cases h
def runDef (P : Program) (R RB : Orc) (H : Code → PS → Option PS) (k : Nat) (fn : Func) (args : List PV) (bs : List SE) : Option CallRes :=
 match fn.body, fn.results.toList, args, bs with
 | some code, [], [.pt 0 0 0], [.box l] => match dfs code with
   | (ds, rest) => match comp P false rest with
     | some cc => match cc.uncut && !(fn.name == "runtime.NumGoroutine") && okDf (1 + (fn.ntmps - 1)) ds with
       | true => match runC R H 1 0 k [] 0 cc (St (1 + (fn.ntmps - 1)) (argF 0 [.pt 0 0 0]) (boxF 0 [.box l])) with
         | some (.nrm, s) => match s.st 0, defSts RB (ds.reverse.map (·.2)) s.st with
           | some (.box _), some st' => runEnd [] 1 ⟨s.n, s.fr, st', True, fun _ => none⟩
           | _, _ => none
         | _ => none
       | false => none
     | none => none
 | _, _, _, _ => none
theorem runDef_ok (hmix : P.follows .mixedOrders = true) {R RB : Orc} {H : Code → PS → Option PS} {k : Nat} {f : FuncId} {fn : Func} {args : List PV} {bs : List SE} {c : CallRes} (hf : P.funcs[f]? = some fn)
  (hR : OrcOK P R) (hRB : ∀ f args bs c, RB f args bs = some c → PureBody P f args bs c) (hH : ∀ np c s s', H c s = some s' → Runs P false np (.raw c) s .nrm s') (h : runDef P R RB H k fn args bs = some c) : PureCall P f args bs c := by
 unfold runDef at h
 split at h
 ·rename_i code l hb hres
  cases hds : dfs code with
  | mk ds rest =>
    rw [hds] at h
    simp only at h
    split at h
    ·rename_i cc hcc
     split at h
     ·rename_i hg
      simp only [Bool.and_eq_true, Bool.not_eq_true'] at hg
      obtain ⟨⟨h1, h3⟩, h4⟩ := hg
      split at h
      ·rename_i s hs
       split at h
       ·rename_i lb st' hs0 hst'
        have hrun := runC_sound (np := 1) hmix hR (hH 1) k _ _ cc _ _ _ hs trivial
        have hres' : mapO (compR P) fn.results.toList = some [] := by rw [hres]; rfl
        refine ⟨⟨fn, hf, by rw [hb]; rfl, h3⟩, fun w γ aas ls vals hst hX hargs => ?_⟩
        obtain ⟨v, vs, rfl, hv, hvs⟩ := hargs.cons_inv
        cases hvs.nil_inv
        refine calls_of_wp_defers hf hb ?_
        have hR0 := rel_start (n := 1 + (fn.ntmps - 1)) (bs := [.box l]) (nt := fn.ntmps) hst hX hargs rfl rfl
        have hv0 : (([v].toArray ++ Array.replicate (fn.ntmps - [v].toArray.size) undef) : Array Value).getD 0 undef = v := by simp [Array.getD_eq_getD_getElem?, Array.getElem?_append]
        have hsz : (([v].toArray ++ Array.replicate (fn.ntmps - [v].toArray.size) undef) : Array Value).size = 1 + (fn.ntmps - 1) := by simp
        refine dfs_wp code ds rest _ w hds hv0 (fun x hx => by rw [hsz]; exact okDf_ok h4 x hx) fun a' g1 g2 g3 => ?_
        simp only [List.append_nil] at g3
        have hRa : Rel ⟨w.heap.size, aas, ls, 1, γ, a'.defers⟩ w γ.own a' w (St (1 + (fn.ntmps - 1)) (argF 0 [.pt 0 0 0]) (boxF 0 [.box l])) γ := by
         refine ⟨by rw [g1, hsz]; rfl, rfl, fun t p hp => ?_, RepSt.df hR0.st, hR0.keeps, hR0.lo, hR0.own, hR0.asLt, hR0.par, hR0.mayP, hR0.fx⟩
         obtain ⟨q1, q2⟩ := hR0.fr t p hp
         refine ⟨q1, ?_⟩
         obtain ⟨_, hh⟩ := argF_get _ _ _ _ hp
         have ht : t = 0 := by
          rcases Nat.eq_zero_or_pos t with h | h
          ·exact h
          ·rw [List.getElem?_eq_none (by simp; omega)] at hh; cases hh
         subst ht
         simp only [hv0] at q2
         rw [g2]; exact q2.df
        have hQ : ∀ lv t, (lv = Lv.nrm ∧ t = s) → t.ok := fun lv t ⟨_, e⟩ => by rw [e]; exact hrun.1
        refine wp_mono (hrun.2 hQ rest (by rw [C.uncut_er cc h1]; exact hcc) _ w γ.own a' w γ rfl hRa) ?_
        rintro e a2 w2 ⟨lv, s2, γ2, he, ⟨rfl, rfl⟩, hR2⟩
        cases e with
        | normal =>
          show Leaves P fn a2.tmps _ a2.defers .returning w2
          rw [hR2.defers, g3]
          have hv2 : Rep ⟨w.heap.size, aas, ls, 1, γ, a'.defers⟩ γ2 w2 (.pt 0 0 0) v := by
           obtain ⟨ge, b, hge, hgb, hve⟩ := pt_inv hv
           rw [hve]
           have hp := hR2.par 0 (show 0 < 1 by omega)
           rw [hs0] at hp
           have this : γ2 0 = γ 0 := hp
           exact .pt 0 0 0 ge b (by rw [this]; exact hge) hgb
          have hl := leaves_run (fn := fn) (tmps := a2.tmps) (R := fun e w' => ∃ v γ', e = .returned v ∧ Rep ⟨w.heap.size, aas, ls, nbx [SE.box l], γ, []⟩ γ' w' c.val v ∧ RepSt ⟨w.heap.size, aas, ls, nbx [SE.box l], γ, []⟩ γ' w' (resSt c) ∧
           Keeps γ.own w w' ∧ (∀ r, r < parN [SE.box l] c → ParR (γ' r) (γ r) (resSt c r)) ∧ (∀ r ge b, γ' r = some ge → ge.has b → w.heap.size ≤ b ∨ (nbx [SE.box l] = 0 ∧ γ.own b) ∨ ∃ ge0, γ r = some ge0 ∧ ge0.has b)) hRB (ds.reverse.map (·.2)) a2 w2 s2 γ2 st' hR2 hv2 hst' (fun w3 γ3 hR3 => by
            obtain ⟨u, k1, v', γ', k2, k3, k4, k5⟩ := res_key (bs := [SE.box l]) hres' hR3 (runEnd_ok (show 1 ≤ newBase by unfold newBase; omega) h)
            exact ⟨u, k1, v', γ', k2, k3.df, RepSt.df k4, k5⟩)
          have hm : (ds.reverse.map fun x => (⟨.fn (.func x.2) #[], #[v]⟩ : Deferred)) = (ds.reverse.map (·.2)).map fun F => ⟨.fn (.func F) #[], #[v]⟩ := by rw [List.map_map]; rfl
          rw [hm]
          exact hl
        | exit id => obtain ⟨hb, hh⟩ := lvOf_exit he; cases hh
        | goto l => cases he
        | ret => cases he
        | panic ch => cases he
        | outgrown => cases he
       ·cases h
      ·cases h
     ·cases h
    ·cases h
 ·cases h
def runB (P : Program) (R : Orc) (H : Code → PS → Option PS) (k : Nat) : Orc := fun f args bs => match P.funcs[f]? with
 | some fn => runBody P R H k fn args bs
 | none => none
def hasDf (fn : Func) : Bool := match fn.body with
 | some c => match (dfs c).1 with
   | [] => false
   | _ => true
 | none => false
def runF (P : Program) (O : Orc → Orc) (H : Code → PS → Option PS) (k : Nat) : Nat → Orc
 | 0, _, _, _ => none
 | d + 1, f, args, bs => match O (runF P O H k d) f args bs with
   | some c => some c
   | none => match P.funcs[f]? with
     | some fn => match hasDf fn with
       | true => runDef P (runF P O H k d) (runB P (runF P O H k d) H k) H k fn args bs
       | false => runBody P (runF P O H k d) H k fn args bs
     | none => none
theorem runB_ok (hmix : P.follows .mixedOrders = true) {R : Orc} {H : Code → PS → Option PS} {k : Nat} (hR : OrcOK P R) (hH : ∀ np c s s', H c s = some s' → Runs P false np (.raw c) s .nrm s') :
  ∀ f args bs c, runB P R H k f args bs = some c → PureBody P f args bs c := fun f args bs c h => by
 unfold runB at h
 split at h
 ·rename_i fn hfn
  exact runBody_ok hmix hfn hR hH h
 ·cases h
theorem runF_ok (hmix : P.follows .mixedOrders = true) {O : Orc → Orc} {H : Code → PS → Option PS} {k : Nat} (hO : ∀ R, OrcOK P R → OrcOK P (O R))
  (hH : ∀ np c s s', H c s = some s' → Runs P false np (.raw c) s .nrm s') : ∀ d, OrcOK P (runF P O H k d)
 | 0 => fun f args bs c h => by simp [runF] at h
 | d + 1 => fun f args bs c h => by
   have ih := runF_ok (k := k) hmix hO hH d
   simp only [runF] at h
   split at h
   ·rename_i c' hc
    injection h with h; subst h
    exact hO _ ih _ _ _ _ hc
   ·split at h
    ·rename_i fn hfn
     split at h
     ·exact runDef_ok hmix hfn ih (runB_ok hmix ih hH) hH h
     ·exact (runBody_ok hmix hfn ih hH h).call
    ·cases h
end
end Pv
end Go.Proofs.YtdcgnfkkklbckaaGreatDoor
/- TOP, THE WALKS: rights in their order. -/
set_option linter.unusedSimpArgs false
set_option linter.unusedVariables false
namespace Go.Proofs.YtdcgnfkkklbckaaGreatDoor
namespace Pv
def c274L1 : C := (.seq (.reg [⟨some 9, 144, none, .bi false .lss (.t 8) (.t 7)⟩])
 (.seq (.cond (.t 9) .skip (.exit 0))
 (.seq (.block 1 (.seq (.reg [⟨some 10, 160, none, .ia 1 (.t 6) (.t 8)⟩,⟨some 11, 176, none, .ld 1 false (.t 10)⟩,⟨some 5, 80, none, .mv (.t 11)⟩])
 (.seq (.reg [⟨some 12, 192, none, .mv (.t 5)⟩,⟨some 13, 208, none, .mv (.t 3)⟩,⟨some 14, 224, none, .bi false .neq (.t 12) (.t 13)⟩])
 (.cond (.t 14) (.seq (.reg [⟨some 15, 240, none, .mv (.t 5)⟩,⟨some 2, 32, none, .mv (.t 15)⟩])
 .ret) .skip))))
 (.reg [⟨some 16, 256, none, .bi false .add (.t 8) (.c (.int .i64 1))⟩,⟨some 8, 128, none, .mv (.t 16)⟩]))))
def c274 : C := (.seq (.reg [⟨some 2, 32, none, .mv (.c (.int .i64 0))⟩])
 (.seq (.reg [⟨some 3, 48, none, .mv (.c (.int .i64 0))⟩])
 (.seq (.seq (.reg [⟨some 6, 96, none, .mv (.t 0)⟩,⟨some 7, 112, none, .len (.t 6)⟩,⟨some 8, 128, none, .mv (.c (.int .i64 0))⟩])
 (.block 0 (.loop c274L1)))
 (.seq (.reg [⟨some 17, 272, none, .mv (.t 3)⟩,⟨some 2, 32, none, .mv (.t 17)⟩])
 .ret))))
theorem fits274 : fits Tryz.prog false Tryz.f274 1 18 [(2, none)] = some c274.er := by kernel_rfl
def c211 : C := (.seq (.reg [⟨some 6, 96, none, .mv (.c (.int .i64 0))⟩])
 (.seq (.drw [⟨some 7, 112, none, .mv (.t 0)⟩,⟨some 8, 128, none, .mv (.t 1)⟩,⟨some 9, 144, none, .ia 4 (.t 7) (.t 8)⟩,⟨some 10, 160, none, .fa 0 (.t 9)⟩,⟨some 11, 176, none, .ld 1 false (.t 10)⟩,⟨some 12, 192, none, .mv (.t 0)⟩,⟨some 13, 208, none, .mv (.t 2)⟩,⟨some 14, 224, none, .ia 4 (.t 12) (.t 13)⟩,⟨some 15, 240, none, .fa 0 (.t 14)⟩,⟨some 16, 256, none, .ld 1 false (.t 15)⟩,⟨some 17, 272, none, .call (.c (.fn (.func 165) [] [])) [(.t 11), (.t 16)]⟩,⟨some 18, 288, none, .mv (.t 1)⟩,⟨some 19, 304, none, .mv (.t 2)⟩,⟨some 20, 320, none, .call (.c (.fn (.func 165) [] [])) [(.t 18), (.t 19)]⟩,⟨some 21, 336, none, .bs 3 1 [(.t 17), (.t 20)]⟩,⟨some 22, 352, none, .call (.c (.fn (.func 274) [] [])) [(.t 21)]⟩,⟨some 6, 96, none, .mv (.t 22)⟩]
  [(0, 1, 7), (0, 5, 7), (0, 6, 7), (0, 7, 7), (0, 8, 7), (0, 9, 7), (0, 11, 7), (0, 12, 7), (1, 5, 8), (1, 6, 8), (1, 7, 8), (1, 8, 8), (1, 9, 8), (1, 11, 8), (1, 12, 8), (2, 5, 9), (2, 6, 9), (2, 7, 9), (2, 8, 9), (2, 9, 9), (2, 11, 9), (2, 12, 9), (3, 5, 10), (3, 6, 10), (3, 7, 10), (3, 8, 10), (3, 9, 10), (3, 11, 10), (3, 12, 10), (4, 5, 11), (4, 6, 11), (4, 7, 11), (4, 8, 11), (4, 9, 11), (4, 11, 11), (4, 12, 11), (5, 6, 12), (5, 11, 12), (5, 12, 12), (6, 11, 13), (6, 12, 13), (7, 11, 14), (7, 12, 14), (8, 11, 15), (8, 12, 15), (9, 11, 16), (9, 12, 16), (10, 11, 17), (10, 12, 17), (11, 12, 18)])
 .ret))
theorem fits211 : fits Tryz.prog false Tryz.f211 3 23 [(6, none)] = some c211.er := by kernel_rfl
def c273L1 : C := (.block 1 (.seq (.reg [⟨some 21, 336, none, .mv (.t 2)⟩,⟨some 22, 352, none, .mv (.t 1)⟩,⟨some 23, 368, none, .bi false .sub (.t 21) (.t 22)⟩,⟨some 12, 192, none, .mv (.t 23)⟩])
 (.seq (.seq (.reg [⟨some 24, 384, none, .mv (.t 12)⟩,⟨some 25, 400, none, .bi false .leq (.t 24) (.c (.int .i64 12))⟩])
 (.cond (.t 25) (.seq (.reg [⟨some 26, 416, none, .mv (.t 0)⟩,⟨some 27, 432, none, .mv (.t 1)⟩,⟨some 28, 448, none, .mv (.t 2)⟩,⟨some 29, 464, none, .mv (.t 4)⟩,⟨some 30, 480, none, .call (.c (.fn (.func 297) [] [])) [(.t 26), (.t 27), (.t 28), (.t 29)]⟩])
 .ret) .skip))
 (.seq (.seq (.reg [⟨some 31, 496, none, .mv (.t 3)⟩,⟨some 32, 512, none, .bi false .eql (.t 31) (.c (.int .i64 0))⟩])
 (.cond (.t 32) (.seq (.reg [⟨some 33, 528, none, .mv (.t 0)⟩,⟨some 34, 544, none, .mv (.t 1)⟩,⟨some 35, 560, none, .mv (.t 2)⟩,⟨some 36, 576, none, .mv (.t 4)⟩,⟨some 37, 592, none, .call (.c (.fn (.func 306) [] [])) [(.t 33), (.t 34), (.t 35), (.t 36)]⟩])
 .ret) .skip))
 (.seq (.seq (.reg [⟨some 38, 608, none, .mv (.t 10)⟩,⟨some 39, 624, none, .un false .not (.t 38)⟩])
 (.cond (.t 39) (.seq (.reg [⟨some 40, 640, none, .mv (.t 0)⟩,⟨some 41, 656, none, .mv (.t 1)⟩,⟨some 42, 672, none, .mv (.t 2)⟩,⟨some 43, 688, none, .mv (.t 4)⟩,⟨some 44, 704, none, .call (.c (.fn (.func 307) [] [])) [(.t 40), (.t 41), (.t 42), (.t 43)]⟩])
 (.reg [⟨some 45, 720, none, .mv (.t 3)⟩,⟨some 46, 736, none, .bi false .sub (.t 45) (.c (.int .i64 1))⟩,⟨some 3, 48, none, .mv (.t 46)⟩])) .skip))
 (.seq (.reg [⟨some 48, 768, none, .mv (.t 0)⟩,⟨some 49, 784, none, .mv (.t 1)⟩,⟨some 50, 800, none, .mv (.t 2)⟩,⟨some 51, 816, none, .mv (.t 4)⟩,⟨some 52, 832, none, .call (.c (.fn (.func 308) [] [])) [(.t 48), (.t 49), (.t 50), (.t 51)]⟩,⟨some 47, 752, none, .mv (.t 52)⟩,⟨some 53, 848, none, .ex (.t 47) 0⟩,⟨some 54, 864, none, .ex (.t 47) 1⟩,⟨some 13, 208, none, .mv (.t 53)⟩,⟨some 14, 224, none, .mv (.t 54)⟩])
 (.seq (.seq (.reg [⟨some 55, 880, none, .mv (.t 14)⟩,⟨some 56, 896, none, .bi false .eql (.t 55) (.c (.int .i64 2))⟩])
 (.cond (.t 56) (.seq (.reg [⟨some 57, 912, none, .mv (.t 0)⟩,⟨some 58, 928, none, .mv (.t 1)⟩,⟨some 59, 944, none, .mv (.t 2)⟩,⟨some 60, 960, none, .mv (.t 4)⟩,⟨some 61, 976, none, .call (.c (.fn (.func 309) [] [])) [(.t 57), (.t 58), (.t 59), (.t 60)]⟩])
 (.seq (.reg [⟨some 62, 992, none, .mv (.t 2)⟩,⟨some 63, 1008, none, .bi false .sub (.t 62) (.c (.int .i64 1))⟩,⟨some 64, 1024, none, .mv (.t 13)⟩,⟨some 65, 1040, none, .mv (.t 1)⟩,⟨some 66, 1056, none, .bi false .sub (.t 64) (.t 65)⟩,⟨some 67, 1072, none, .bi false .sub (.t 63) (.t 66)⟩,⟨some 13, 208, none, .mv (.t 67)⟩])
 (.reg [⟨some 14, 224, none, .mv (.c (.int .i64 1))⟩]))) .skip))
 (.seq (.seq (.reg [⟨some 68, 1088, none, .mv (.t 10)⟩,⟨some 69, 1104, none, .mv (.t 68)⟩,⟨some 70, 1120, (some (69, true)), .mv (.t 11)⟩,⟨some 71, 1136, none, .pick (.t 69) (.t 70) (.c (.bool false))⟩,⟨some 72, 1152, none, .mv (.t 71)⟩,⟨some 73, 1168, (some (72, true)), .mv (.t 14)⟩,⟨some 74, 1184, (some (72, true)), .bi false .eql (.t 73) (.c (.int .i64 1))⟩,⟨some 75, 1200, none, .pick (.t 72) (.t 74) (.c (.bool false))⟩])
 (.cond (.t 75) (.seq (.reg [⟨some 76, 1216, none, .mv (.t 0)⟩,⟨some 77, 1232, none, .mv (.t 1)⟩,⟨some 78, 1248, none, .mv (.t 2)⟩,⟨some 79, 1264, none, .mv (.t 4)⟩,⟨some 80, 1280, none, .call (.c (.fn (.func 310) [] [])) [(.t 76), (.t 77), (.t 78), (.t 79)]⟩])
 (.cond (.t 80) .ret .skip)) .skip))
 (.seq (.seq (.drw [⟨some 81, 1296, none, .mv (.t 1)⟩,⟨some 82, 1312, none, .bi false .gtr (.t 81) (.c (.int .i64 0))⟩,⟨some 83, 1328, none, .mv (.t 82)⟩,⟨some 84, 1344, (some (83, true)), .mv (.t 4)⟩,⟨some 85, 1360, (some (83, true)), .mv (.t 0)⟩,⟨some 86, 1376, (some (83, true)), .mv (.t 1)⟩,⟨some 87, 1392, (some (83, true)), .bi false .sub (.t 86) (.c (.int .i64 1))⟩,⟨some 88, 1408, (some (83, true)), .ia 1 (.t 85) (.t 87)⟩,⟨some 89, 1424, (some (83, true)), .ld 1 false (.t 88)⟩,⟨some 90, 1440, (some (83, true)), .mv (.t 0)⟩,⟨some 91, 1456, (some (83, true)), .mv (.t 13)⟩,⟨some 92, 1472, (some (83, true)), .ia 1 (.t 90) (.t 91)⟩,⟨some 93, 1488, (some (83, true)), .ld 1 false (.t 92)⟩,⟨some 94, 1504, (some (83, true)), .call (.t 84) [(.t 89), (.t 93)]⟩,⟨some 95, 1520, (some (83, true)), .bi false .lss (.t 94) (.c (.int .i64 0))⟩,⟨some 96, 1536, (some (83, true)), .un false .not (.t 95)⟩,⟨some 97, 1552, none, .pick (.t 83) (.t 96) (.c (.bool false))⟩]
  [(3, 4, 84), (3, 5, 84), (3, 6, 84), (3, 7, 84), (3, 8, 84), (3, 9, 84), (3, 10, 84), (3, 11, 84), (3, 12, 84), (4, 5, 85), (4, 6, 85), (4, 9, 85), (4, 10, 85), (4, 11, 85), (4, 12, 85), (5, 9, 86), (5, 10, 86), (5, 11, 86), (5, 12, 86), (6, 9, 87), (6, 10, 87), (6, 11, 87), (6, 12, 87), (7, 9, 88), (7, 10, 88), (7, 11, 88), (7, 12, 88), (8, 9, 89), (8, 10, 89), (8, 11, 89), (8, 12, 89), (9, 10, 90)])
 (.cond (.t 97) (.seq (.reg [⟨some 98, 1568, none, .mv (.t 0)⟩,⟨some 99, 1584, none, .mv (.t 1)⟩,⟨some 100, 1600, none, .mv (.t 2)⟩,⟨some 101, 1616, none, .mv (.t 13)⟩,⟨some 102, 1632, none, .mv (.t 4)⟩,⟨some 103, 1648, none, .call (.c (.fn (.func 311) [] [])) [(.t 98), (.t 99), (.t 100), (.t 101), (.t 102)]⟩,⟨some 15, 240, none, .mv (.t 103)⟩])
 (.seq (.reg [⟨some 104, 1664, none, .mv (.t 15)⟩,⟨some 1, 16, none, .mv (.t 104)⟩])
 (.exit 1))) .skip))
 (.seq (.reg [⟨some 106, 1696, none, .mv (.t 0)⟩,⟨some 107, 1712, none, .mv (.t 1)⟩,⟨some 108, 1728, none, .mv (.t 2)⟩,⟨some 109, 1744, none, .mv (.t 13)⟩,⟨some 110, 1760, none, .mv (.t 4)⟩,⟨some 111, 1776, none, .call (.c (.fn (.func 312) [] [])) [(.t 106), (.t 107), (.t 108), (.t 109), (.t 110)]⟩,⟨some 105, 1680, none, .mv (.t 111)⟩,⟨some 112, 1792, none, .ex (.t 105) 0⟩,⟨some 113, 1808, none, .ex (.t 105) 1⟩,⟨some 16, 256, none, .mv (.t 112)⟩,⟨some 17, 272, none, .mv (.t 113)⟩])
 (.seq (.reg [⟨some 114, 1824, none, .mv (.t 17)⟩,⟨some 11, 176, none, .mv (.t 114)⟩])
 (.seq (.reg [⟨some 115, 1840, none, .mv (.t 16)⟩,⟨some 116, 1856, none, .mv (.t 1)⟩,⟨some 117, 1872, none, .bi false .sub (.t 115) (.t 116)⟩,⟨some 118, 1888, none, .mv (.t 2)⟩,⟨some 119, 1904, none, .mv (.t 16)⟩,⟨some 120, 1920, none, .bi false .sub (.t 118) (.t 119)⟩,⟨some 18, 288, none, .mv (.t 117)⟩,⟨some 19, 304, none, .mv (.t 120)⟩])
 (.seq (.reg [⟨some 121, 1936, none, .mv (.t 12)⟩,⟨some 122, 1952, none, .bi false .quo (.t 121) (.c (.int .i64 8))⟩,⟨some 20, 320, none, .mv (.t 122)⟩])
 (.seq (.reg [⟨some 123, 1968, none, .mv (.t 18)⟩,⟨some 124, 1984, none, .mv (.t 19)⟩,⟨some 125, 2000, none, .bi false .lss (.t 123) (.t 124)⟩])
 (.cond (.t 125) (.seq (.reg [⟨some 126, 2016, none, .mv (.t 18)⟩,⟨some 127, 2032, none, .mv (.t 20)⟩,⟨some 128, 2048, none, .bi false .geq (.t 126) (.t 127)⟩,⟨some 10, 160, none, .mv (.t 128)⟩])
 (.seq (.reg [⟨some 129, 2064, none, .mv (.t 0)⟩,⟨some 130, 2080, none, .mv (.t 1)⟩,⟨some 131, 2096, none, .mv (.t 16)⟩,⟨some 132, 2112, none, .mv (.t 3)⟩,⟨some 133, 2128, none, .mv (.t 4)⟩,⟨some 134, 2144, none, .call (.c (.fn (.func 273) [] [])) [(.t 129), (.t 130), (.t 131), (.t 132), (.t 133)]⟩])
 (.reg [⟨some 135, 2160, none, .mv (.t 16)⟩,⟨some 136, 2176, none, .bi false .add (.t 135) (.c (.int .i64 1))⟩,⟨some 1, 16, none, .mv (.t 136)⟩]))) (.seq (.reg [⟨some 137, 2192, none, .mv (.t 19)⟩,⟨some 138, 2208, none, .mv (.t 20)⟩,⟨some 139, 2224, none, .bi false .geq (.t 137) (.t 138)⟩,⟨some 10, 160, none, .mv (.t 139)⟩])
 (.seq (.reg [⟨some 140, 2240, none, .mv (.t 0)⟩,⟨some 141, 2256, none, .mv (.t 16)⟩,⟨some 142, 2272, none, .bi false .add (.t 141) (.c (.int .i64 1))⟩,⟨some 143, 2288, none, .mv (.t 2)⟩,⟨some 144, 2304, none, .mv (.t 3)⟩,⟨some 145, 2320, none, .mv (.t 4)⟩,⟨some 146, 2336, none, .call (.c (.fn (.func 273) [] [])) [(.t 140), (.t 142), (.t 143), (.t 144), (.t 145)]⟩])
 (.reg [⟨some 147, 2352, none, .mv (.t 16)⟩,⟨some 2, 32, none, .mv (.t 147)⟩]))))))))))))))))))
def c273 : C := (.seq (.reg [⟨some 10, 160, none, .mv (.c (.bool true))⟩])
 (.seq (.reg [⟨some 11, 176, none, .mv (.c (.bool true))⟩])
 (.block 0 (.loop c273L1))))
theorem fits273 : fits Tryz.prog false Tryz.f273 5 148 [] = some c273.er := by kernel_rfl
def c210 : C := (.seq (.reg [⟨some 5, 80, none, .mv (.t 0)⟩,⟨some 6, 96, none, .len (.t 5)⟩,⟨some 4, 64, none, .mv (.t 6)⟩])
 (.reg [⟨some 7, 112, none, .mv (.t 0)⟩,⟨some 8, 128, none, .mv (.t 4)⟩,⟨some 9, 144, none, .mv (.t 4)⟩,⟨some 10, 160, none, .cv false .u64 (.t 9)⟩,⟨some 11, 176, none, .call (.c (.fn (.func 204) [] [])) [(.t 10)]⟩,⟨some 12, 192, none, .mv (.t 1)⟩,⟨some 13, 208, none, .call (.c (.fn (.func 273) [] [])) [(.t 7), (.c (.int .i64 0)), (.t 8), (.t 11), (.t 12)]⟩]))
theorem fits210 : fits Tryz.prog false Tryz.f210 2 14 [] = some c210.er := by kernel_rfl
def len8 : Nat → Int
 | 0 => 0
 | 1 => 1
 | 2 => 2
 | 3 => 2
 | 4 => 3
 | 5 => 3
 | 6 => 3
 | _ => 3
theorem call204 (n : Nat) (hn : n ≤ 7) : PureCall Tryz.prog 204 [.int .u64 n] [] ⟨.int .i64 (len8 n), [], []⟩ := by
 have ok : ∀ n : Nat, runF Tryz.prog (fun R => R) (fun _ _ => none) 100 20 204 [.int .u64 (n : Int)] [] = some ⟨.int .i64 (len8 n), [], []⟩ → PureCall Tryz.prog 204 [.int .u64 n] [] ⟨.int .i64 (len8 n), [], []⟩ := fun n h =>
  runF_ok mix (fun R h => h) (fun _ _ _ _ h => by cases h) 20 204 _ [] _ h
 have k0 : runF Tryz.prog (fun R => R) (fun _ _ => none) 100 20 204 [.int .u64 ((0 : Nat) : Int)] [] = some ⟨.int .i64 (len8 0), [], []⟩ := by kernel_rfl
 have k1 : runF Tryz.prog (fun R => R) (fun _ _ => none) 100 20 204 [.int .u64 ((1 : Nat) : Int)] [] = some ⟨.int .i64 (len8 1), [], []⟩ := by kernel_rfl
 have k2 : runF Tryz.prog (fun R => R) (fun _ _ => none) 100 20 204 [.int .u64 ((2 : Nat) : Int)] [] = some ⟨.int .i64 (len8 2), [], []⟩ := by kernel_rfl
 have k3 : runF Tryz.prog (fun R => R) (fun _ _ => none) 100 20 204 [.int .u64 ((3 : Nat) : Int)] [] = some ⟨.int .i64 (len8 3), [], []⟩ := by kernel_rfl
 have k4 : runF Tryz.prog (fun R => R) (fun _ _ => none) 100 20 204 [.int .u64 ((4 : Nat) : Int)] [] = some ⟨.int .i64 (len8 4), [], []⟩ := by kernel_rfl
 have k5 : runF Tryz.prog (fun R => R) (fun _ _ => none) 100 20 204 [.int .u64 ((5 : Nat) : Int)] [] = some ⟨.int .i64 (len8 5), [], []⟩ := by kernel_rfl
 have k6 : runF Tryz.prog (fun R => R) (fun _ _ => none) 100 20 204 [.int .u64 ((6 : Nat) : Int)] [] = some ⟨.int .i64 (len8 6), [], []⟩ := by kernel_rfl
 have k7 : runF Tryz.prog (fun R => R) (fun _ _ => none) 100 20 204 [.int .u64 ((7 : Nat) : Int)] [] = some ⟨.int .i64 (len8 7), [], []⟩ := by kernel_rfl
 match n, hn with
 | 0, _ => exact ok 0 k0
 | 1, _ => exact ok 1 k1
 | 2, _ => exact ok 2 k2
 | 3, _ => exact ok 3 k3
 | 4, _ => exact ok 4 k4
 | 5, _ => exact ok 5 k5
 | 6, _ => exact ok 6 k6
 | 7, _ => exact ok 7 k7
def orV (a b : Int) : Int := if a ≠ 0 then a else b
theorem call274 (ρ : Nat) (a b : Int) : PureCall Tryz.prog 274 [.sl ρ 1 2 (fun i => [[PV.int .i64 a], [PV.int .i64 b]].getD i [])] [] ⟨.int .i64 (orV a b), [], []⟩ := by
 refine pure_call mix Tryz.func274 fits274 rfl ?_
 conv => whnf
 refine ⟨?_, ?_⟩
 ·exact g0
 refine LSem.loop (n := 18) mix (α := Nat) (fun i => i ≤ 2 ∧ (0 < i → a = 0) ∧ (1 < i → b = 0))
  (fun i => [(3, .int .i64 0), (6, .sl ρ 1 2 (fun i => [[PV.int .i64 a], [PV.int .i64 b]].getD i [])), (7, .int .i64 2), (8, .int .i64 i)])
  (fun i => []) (fun i => 2 - i) 0 ?_ ?_ ?_
 ·exact ⟨by omega, fun h => by omega, fun h => by omega⟩
 ·refine ⟨rfl, rfl, ?_, ?_⟩
  all_goals repeat' (first | exact True.intro | refine leF_cons rfl ?_ ?_ | refine leS_cons rfl ?_ ?_ | (show PLe _ _ _ _; conv => whnf) | (show SLe _ _ _ _; conv => whnf) | (show PLeL _ _ _ _; conv => whnf) | apply And.intro | rfl | exact Nat.le_refl _ | exact fun _ _ => rfl | exact rowEq0 _ _)
 ·rintro i ⟨hi, h1, h2⟩
  conv => whnf
  refine ⟨trivial, fun hc => ?_, fun hc => ?_⟩
  ·replace hc := of_decide_eq_true hc
   have h01 : i = 0 ∨ i = 1 := by omega
   rcases h01 with rfl | rfl
   ·conv => whnf
    refine ⟨?_, fun hc => ?_, fun hc => ?_⟩
    ·exact g0
    ·simp only [bp] at hc
     rw [show orV a b = a from if_pos hc]
     conv => whnf
     refine ⟨?_, [], ?_⟩
     ·exact g0
     conv => whnf
     refine ⟨rfl, ?_, trivial, trivial⟩
     all_goals repeat' (first | exact True.intro | refine leF_cons rfl ?_ ?_ | refine leS_cons rfl ?_ ?_ | (show PLe _ _ _ _; conv => whnf) | (show SLe _ _ _ _; conv => whnf) | (show PLeL _ _ _ _; conv => whnf) | apply And.intro | rfl | exact Nat.le_refl _ | exact fun _ _ => rfl | exact rowEq0 _ _)
    ·simp only [bp] at hc
     conv => whnf
     refine ⟨?_, 1, ⟨by omega, fun _ => (by simpa using hc), fun h => by omega⟩, by omega, rfl, rfl, ?_, ?_⟩
     ·exact g0
     all_goals repeat' (first | exact True.intro | refine leF_cons rfl ?_ ?_ | refine leS_cons rfl ?_ ?_ | (show PLe _ _ _ _; conv => whnf) | (show SLe _ _ _ _; conv => whnf) | (show PLeL _ _ _ _; conv => whnf) | apply And.intro | rfl | exact Nat.le_refl _ | exact fun _ _ => rfl | exact rowEq0 _ _)
   ·have ha := h1 (by omega)
    conv => whnf
    refine ⟨?_, fun hc => ?_, fun hc => ?_⟩
    ·exact g0
    ·simp only [bp] at hc
     rw [show orV a b = b from if_neg (by simp [ha])]
     conv => whnf
     refine ⟨?_, [], ?_⟩
     ·exact g0
     conv => whnf
     refine ⟨rfl, ?_, trivial, trivial⟩
     all_goals repeat' (first | exact True.intro | refine leF_cons rfl ?_ ?_ | refine leS_cons rfl ?_ ?_ | (show PLe _ _ _ _; conv => whnf) | (show SLe _ _ _ _; conv => whnf) | (show PLeL _ _ _ _; conv => whnf) | apply And.intro | rfl | exact Nat.le_refl _ | exact fun _ _ => rfl | exact rowEq0 _ _)
    ·simp only [bp] at hc
     conv => whnf
     refine ⟨?_, 2, ⟨by omega, fun _ => ha, fun _ => (by simpa using hc)⟩, by omega, rfl, rfl, ?_, ?_⟩
     ·exact g0
     all_goals repeat' (first | exact True.intro | refine leF_cons rfl ?_ ?_ | refine leS_cons rfl ?_ ?_ | (show PLe _ _ _ _; conv => whnf) | (show SLe _ _ _ _; conv => whnf) | (show PLeL _ _ _ _; conv => whnf) | apply And.intro | rfl | exact Nat.le_refl _ | exact fun _ _ => rfl | exact rowEq0 _ _)
  ·replace hc := of_decide_eq_false hc
   have : i = 2 := by omega
   subst this
   have ha := h1 (by omega)
   have hb := h2 (by omega)
   rw [show orV a b = 0 by unfold orV; rw [if_neg (by simp [ha]), hb]]
   conv => whnf
   refine ⟨?_, [], ?_⟩
   ·exact g0
   conv => whnf
   refine ⟨rfl, ?_, trivial, trivial⟩
   all_goals repeat' (first | exact True.intro | refine leF_cons rfl ?_ ?_ | refine leS_cons rfl ?_ ?_ | (show PLe _ _ _ _; conv => whnf) | (show SLe _ _ _ _; conv => whnf) | (show PLeL _ _ _ _; conv => whnf) | apply And.intro | rfl | exact Nat.le_refl _ | exact fun _ _ => rfl | exact rowEq0 _ _)
def ordV (l : List Rt) (a b : Int) : Int := orV (cmpI (rtA l a).d (rtA l b).d) (cmpI a b)
theorem cmpI_zero {a b : Int} : cmpI a b = 0 ↔ a = b := by
 unfold cmpI
 by_cases h1 : a < b
 ·rw [if_pos h1]; constructor <;> intro h <;> omega
 ·rw [if_neg h1]
  by_cases h2 : b < a
  ·rw [if_pos h2]; constructor <;> intro h <;> omega
  ·rw [if_neg h2]; constructor <;> intro h <;> omega
theorem ordV_lt {l : List Rt} (hl : l.length ≤ 1000) {a b : Int} (ha : 0 ≤ a ∧ a < l.length) (hb : 0 ≤ b ∧ b < l.length) : ordV l a b < 0 ↔ rkR l a < rkR l b := by
 unfold ordV orV rkR
 by_cases h : (rtA l a).d = (rtA l b).d
 ·rw [if_neg (by simpa using cmpI_zero.2 h), cmpI_lt, h]
  omega
 ·rw [if_pos (fun e => h (cmpI_zero.1 e)), cmpI_lt]
  omega
theorem call211 (τ : Nat) (l : List Rt) (hl : l.length ≤ 1000) (a b : Int) (ha : 0 ≤ a ∧ a < l.length) (hb : 0 ≤ b ∧ b < l.length) :
  PureCall Tryz.prog 211 [.sl τ 4 l.length (fl eRt l), .int .i64 a, .int .i64 b] [] ⟨.int .i64 (ordV l a b), [], []⟩ := by
 refine pure_call mix Tryz.func211 fits211 rfl ?_
 conv => whnf
 refine ⟨_, fun _ => call165 (rtA l a).d (rtA l b).d, ?_⟩
 conv => whnf
 refine ⟨_, fun _ => call165 a b, ?_⟩
 conv => whnf
 refine ⟨_, fun _ => call274 _ (cmpI (rtA l a).d (rtA l b).d) (cmpI a b), ?_⟩
 conv => whnf
 refine ⟨rfl, ?_⟩
 conv => whnf
 refine ⟨?_, [], ?_⟩
 ·exact g0
 conv => whnf
 refine ⟨rfl, ?_, trivial, trivial⟩
 all_goals repeat' (first | exact True.intro | refine leF_cons rfl ?_ ?_ | refine leS_cons rfl ?_ ?_ | (show PLe _ _ _ _; conv => whnf) | (show SLe _ _ _ _; conv => whnf) | (show PLeL _ _ _ _; conv => whnf) | apply And.intro | rfl | exact Nat.le_refl _ | exact fun _ _ => rfl | exact rowEq0 _ _)
set_option maxRecDepth 100000 in
set_option maxHeartbeats 4000000 in
theorem call297r (τ : Nat) (l : List Rt) (hl : l.length ≤ 1000) (n : Nat) (hn : n ≤ 4611686018427387904) (g : Nat → Int) (hg : ∀ k, k < n → 0 ≤ g k ∧ g k < l.length) :
  PureCall Tryz.prog 297 [.os 0, .int .i64 0, .int .i64 n, .fn (.func 211) [.sl τ 4 l.length (fl eRt l)] []] [.row 3 3 1 n (eR g)] ⟨.tup [], [.row 0 3 1 n (eR (insN (rkR l) g n))], []⟩ := by
 refine pure_write mix Tryz.func297 fits297 (.inr fun i _ c hc => by simp [eR] at hc; subst hc; rfl) ?_
 conv => whnf
 refine ⟨?_, ?_⟩
 ·exact g0
 refine LSem.loop (n := 53) mix (α := Nat) (fun i => i ≤ n + 1 ∧ 1 ≤ i ∧ (n < i → n = 0))
  (fun i => [(0, .os 0), (1, .int .i64 0), (2, .int .i64 n), (3, .fn (.func 211) [.sl τ 4 l.length (fl eRt l)] []), (8, .int .i64 i)])
  (fun i => [(0, .row 3 3 1 n (eR (insN (rkR l) g i)))]) (fun i => n + 1 - i) 1 ?_ ?_ ?_
 ·exact ⟨by omega, Nat.le_refl _, fun h => by omega⟩
 ·refine ⟨rfl, rfl, ?_, ?_⟩
  all_goals repeat' (first | exact True.intro | refine leF_cons rfl ?_ ?_ | refine leS_cons rfl ?_ ?_ | (show PLe _ _ _ _; conv => whnf) | (show SLe _ _ _ _; conv => whnf) | (show PLeL _ _ _ _; conv => whnf) | apply And.intro | rfl | exact Nat.le_refl _ | exact fun _ _ => rfl | exact rowEq0 _ _)
 ·intro i hi
  obtain ⟨hi1, hi2, hi3⟩ := hi
  conv => whnf
  refine ⟨trivial, fun hc => ?_, fun hc => ?_⟩
  ·replace hc := of_decide_eq_true hc
   have hlt : i < n := by omega
   conv => whnf
   refine ⟨trivial, ?_⟩
   refine LSem.loop (n := 53) mix (α := Nat × (Nat → Int)) (fun x => x.1 ≤ i ∧ sink (rkR l) x.2 x.1 = insN (rkR l) g (i + 1) ∧ ∀ k, k < n → 0 ≤ x.2 k ∧ x.2 k < l.length)
    (fun x => [(0, .os 0), (1, .int .i64 0), (2, .int .i64 n), (3, .fn (.func 211) [.sl τ 4 l.length (fl eRt l)] []), (8, .int .i64 i), (9, .int .i64 x.1)])
    (fun x => [(0, .row 3 3 1 n (eR x.2))]) (fun x => x.1) (i, insN (rkR l) g i) ?_ ?_ ?_
   ·exact ⟨Nat.le_refl _, rfl, insN_in (p := fun x => 0 ≤ x ∧ x < l.length) g hg i (by omega)⟩
   ·refine ⟨rfl, rfl, ?_, ?_⟩
    all_goals repeat' (first | exact True.intro | refine leF_cons rfl ?_ ?_ | refine leS_cons rfl ?_ ?_ | (show PLe _ _ _ _; conv => whnf) | (show SLe _ _ _ _; conv => whnf) | (show PLeL _ _ _ _; conv => whnf) | apply And.intro | rfl | exact Nat.le_refl _ | exact fun _ _ => rfl | exact rowEq0 _ _)
   ·rintro ⟨j, h⟩ ⟨hj, hs, hin⟩
    dsimp only at hj hs hin ⊢
    rcases Nat.eq_zero_or_pos j with h0 | h0
    ·subst h0
     conv => whnf
     refine ⟨⟨.int .i64 0, [], []⟩, fun hg => by simp at hg, ?_⟩
     conv => whnf
     refine ⟨rfl, ?_⟩
     conv => whnf
     refine ⟨?_, fun hc => by simp at hc, fun _ => ?_⟩
     ·exact g0
     conv => whnf
     refine ⟨?_, i + 1, ⟨by omega, by omega, fun h => by omega⟩, by omega, rfl, rfl, ?_, ?_⟩
     ·exact g0
     all_goals repeat' (first | exact True.intro | refine leF_cons rfl ?_ ?_ | refine leS_cons rfl ?_ ?_ | (show PLe _ _ _ _; conv => whnf) | (show SLe _ _ _ _; conv => whnf) | (show PLeL _ _ _ _; conv => whnf) | apply And.intro | rfl | exact Nat.le_refl _ | exact fun _ _ => rfl | exact rowEq0 _ _)
     all_goals (intro k hk; show eR h k = eR (insN (rkR l) g (i + 1)) k; rw [← hs]; rfl)
    obtain ⟨j, rfl⟩ : ∃ j', j = j' + 1 := ⟨j - 1, by omega⟩
    have e1 : ((j + 1 : Nat) : Int).toNat = j + 1 := by omega
    have e2 : (((j + 1 : Nat) : Int) - 1).toNat = j := by omega
    conv => whnf
    refine ⟨_, fun _ => call211 _ l hl (h (((j + 1 : Nat) : Int)).toNat) (h (((j + 1 : Nat) : Int) - 1).toNat) (by rw [e1]; exact hin _ (by omega)) (by rw [e2]; exact hin _ (by omega)), ?_⟩
    rw [e1, e2]
    conv => whnf
    refine ⟨rfl, ?_⟩
    conv => whnf
    refine ⟨?_, fun hc => ?_, fun hc => ?_⟩
    ·exact g0
    ·simp only [bp] at hc
     have hlt2 : (rkR l) (h (j + 1)) < (rkR l) (h j) := (ordV_lt hl (hin (j + 1) (by omega)) (hin j (by omega))).1 hc.2
     conv => whnf
     refine ⟨rfl, ?_⟩
     conv => whnf
     refine ⟨?_, (j, swp h j), ⟨by dsimp only; omega, ?_, ?_⟩, Nat.lt_succ_self j, rfl, rfl, ?_, ?_⟩
     ·exact g0
     ·rw [← hs]
      exact (if_pos hlt2).symm
     ·intro k hk
      dsimp only
      unfold swp
      split
      ·exact hin _ (by omega)
      ·split
       ·exact hin _ (by omega)
       ·exact hin _ hk
     all_goals repeat' (first | exact True.intro | refine leF_cons rfl ?_ ?_ | refine leS_cons rfl ?_ ?_ | (show PLe _ _ _ _; conv => whnf) | (show SLe _ _ _ _; conv => whnf) | (show PLeL _ _ _ _; conv => whnf) | apply And.intro | rfl | exact Nat.le_refl _ | exact fun _ _ => rfl | exact rowEq0 _ _)
     all_goals first | (show ((j + 1 : Nat) : Int) - 1 = (j : Int); omega) | skip
     all_goals
      intro k hk
      dsimp only
      rw [e1, e2]
      by_cases hkj : k = j
      ·subst hkj
       rw [if_pos rfl, if_neg (by omega)]
       simp [eR, swp, setAt, PV.cells]
      ·rw [if_neg hkj]
       by_cases hk1 : k = j + 1
       ·subst hk1
        rw [if_pos rfl]
        simp [eR, swp, setAt, PV.cells]
       ·rw [if_neg hk1]
        simp [eR, swp, hkj, hk1]
    ·simp only [bp] at hc
     have hge2 : ¬ (rkR l) (h (j + 1)) < (rkR l) (h j) := by
      intro hh
      rcases hc with hc | hc
      ·exact hc.2 ((ordV_lt hl (hin (j + 1) (by omega)) (hin j (by omega))).2 hh)
      ·omega
     conv => whnf
     refine ⟨?_, i + 1, ⟨by omega, by omega, fun h => by omega⟩, by omega, rfl, rfl, ?_, ?_⟩
     ·exact g0
     all_goals repeat' (first | exact True.intro | refine leF_cons rfl ?_ ?_ | refine leS_cons rfl ?_ ?_ | (show PLe _ _ _ _; conv => whnf) | (show SLe _ _ _ _; conv => whnf) | (show PLeL _ _ _ _; conv => whnf) | apply And.intro | rfl | exact Nat.le_refl _ | exact fun _ _ => rfl | exact rowEq0 _ _)
     all_goals (intro k hk; show eR h k = eR (insN (rkR l) g (i + 1)) k; rw [← hs]; show _ = eR (sink (rkR l) h (j + 1)) k; unfold sink; rw [if_neg hge2])
  ·replace hc := of_decide_eq_false hc
   have hge : ¬ (i < n) := by omega
   conv => whnf
   have hrow : RowEq n (eR (insN (rkR l) g i)) (eR (insN (rkR l) g n)) := by
    rcases Nat.lt_or_ge n i with h1 | h1
    ·rw [hi3 h1]; exact rowEq0 _ _
    ·have : i = n := by omega
     rw [this]; exact fun _ _ => rfl
   exact ⟨trivial, rfl, rfl, rfl, rfl, hrow⟩
theorem call273 (τ : Nat) (l : List Rt) (hl : l.length ≤ 1000) (n : Nat) (hn : n ≤ 12) (x : Int) (g : Nat → Int) (hg : ∀ k, k < n → 0 ≤ g k ∧ g k < l.length) :
  PureCall Tryz.prog 273 [.os 0, .int .i64 0, .int .i64 n, .int .i64 x, .fn (.func 211) [.sl τ 4 l.length (fl eRt l)] []] [.row 3 3 1 n (eR g)] ⟨.tup [], [.row 0 3 1 n (eR (insN (rkR l) g n))], []⟩ := by
 refine pure_write mix Tryz.func273 fits273 (.inr fun i _ c hc => by simp [eR] at hc; subst hc; rfl) ?_
 conv => whnf
 refine ⟨?_, ?_⟩
 ·exact g0
 refine LSem.loop (n := 148) mix (α := Nat) (fun i => True)
  (fun i => [(0, .os 0), (1, .int .i64 0), (2, .int .i64 n), (4, .fn (.func 211) [.sl τ 4 l.length (fl eRt l)] [])])
  (fun i => [(0, .row 3 3 1 n (eR g))]) (fun i => 0) 0 trivial ?_ ?_
 ·refine ⟨rfl, rfl, ?_, ?_⟩
  all_goals repeat' (first | exact True.intro | refine leF_cons rfl ?_ ?_ | refine leS_cons rfl ?_ ?_ | (show PLe _ _ _ _; conv => whnf) | (show SLe _ _ _ _; conv => whnf) | (show PLeL _ _ _ _; conv => whnf) | apply And.intro | rfl | exact Nat.le_refl _ | exact fun _ _ => rfl | exact rowEq0 _ _)
 intro i _
 conv => whnf
 refine ⟨?_, fun hc => ?_, fun hc => ?_⟩
 ·exact g0
 ·conv => whnf
  refine ⟨_, fun _ => call297r _ l hl n (by omega) g hg, ?_⟩
  conv => whnf
  exact ⟨g0 (P := _), rfl, rfl, rfl, rfl, fun _ _ => rfl⟩
 ·simp only [bp] at hc
  omega
theorem call210 (τ : Nat) (l : List Rt) (hl : l.length ≤ 1000) (n : Nat) (hn : n ≤ 7) (g : Nat → Int) (hg : ∀ k, k < n → 0 ≤ g k ∧ g k < l.length) :
  PureCall Tryz.prog 210 [.os 0, .fn (.func 211) [.sl τ 4 l.length (fl eRt l)] []] [.row 3 3 1 n (eR g)] ⟨.tup [], [.row 0 3 1 n (eR (insN (rkR l) g n))], []⟩ := by
 refine pure_write mix Tryz.func210 fits210 (.inr fun i _ c hc => by simp [eR] at hc; subst hc; rfl) ?_
 conv => whnf
 refine ⟨_, fun _ => call204 n hn, ?_⟩
 conv => whnf
 refine ⟨_, fun _ => call273 _ l hl n (by omega) (len8 n) g hg, ?_⟩
 conv => whnf
 exact ⟨⟨⟨⟨trivial, (show (0 : Int) ≤ n ∧ (n : Int) ≤ 18446744073709551615 by omega)⟩, trivial⟩, trivial⟩, rfl, rfl, rfl, rfl, fun _ _ => rfl⟩
end Pv
end Go.Proofs.YtdcgnfkkklbckaaGreatDoor
/- TOP, THE WALKS: active rights. -/
set_option linter.unusedSimpArgs false
set_option linter.unusedVariables false
namespace Go.Proofs.YtdcgnfkkklbckaaGreatDoor
namespace Pv
def c167L1 : C := (.seq (.reg [⟨some 11, 176, none, .bi false .lss (.t 10) (.t 9)⟩])
 (.seq (.cond (.t 11) .skip (.exit 0))
 (.seq (.block 1 (.seq (.reg [⟨some 12, 192, none, .mv (.t 10)⟩,⟨some 13, 208, none, .ia 4 (.t 8) (.t 10)⟩,⟨some 14, 224, none, .ld 4 true (.t 13)⟩,⟨some 7, 112, none, .al [(.int .i64 0), (.int .i64 0), (.int .i64 0), (.int .i64 0)]⟩,⟨some 6, 96, none, .mv (.t 12)⟩,⟨none, 0, none, .st 4 (.t 7) (.t 14)⟩])
 (.seq (.reg [⟨some 15, 240, none, .fa 2 (.t 7)⟩,⟨some 16, 256, none, .ld 2 true (.t 15)⟩,⟨some 17, 272, none, .mv (.t 1)⟩,⟨some 18, 288, none, .call (.c (.fn (.func 197) [] [])) [(.t 16), (.t 17)]⟩])
 (.cond (.t 18) (.reg [⟨some 19, 304, none, .mv (.t 5)⟩,⟨some 20, 320, none, .mv (.t 6)⟩,⟨some 21, 336, none, .bs 3 1 [(.t 20)]⟩,⟨some 22, 352, none, .app 3 1 8 (.t 19) (.t 21)⟩,⟨some 5, 80, none, .mv (.t 22)⟩]) .skip))))
 (.reg [⟨some 23, 368, none, .bi false .add (.t 10) (.c (.int .i64 1))⟩,⟨some 10, 160, none, .mv (.t 23)⟩]))))
def c167 : C := (.seq (.reg [⟨some 4, 64, none, .mv (.c (.nil 1))⟩])
 (.seq (.reg [⟨some 5, 80, none, .mv (.c (.nil 1))⟩])
 (.seq (.seq (.reg [⟨some 8, 128, none, .mv (.t 0)⟩,⟨some 9, 144, none, .len (.t 8)⟩,⟨some 10, 160, none, .mv (.c (.int .i64 0))⟩])
 (.block 0 (.loop c167L1)))
 (.seq (.reg [⟨some 24, 384, none, .mv (.t 5)⟩,⟨some 25, 400, none, .mv (.t 0)⟩,⟨some 26, 416, none, .mf (.func 211) [(.t 25)] []⟩,⟨some 27, 432, none, .call (.c (.fn (.func 210) [] [])) [(.t 24), (.t 26)]⟩])
 (.seq (.reg [⟨some 28, 448, none, .mv (.t 5)⟩,⟨some 4, 64, none, .mv (.t 28)⟩])
 .ret)))))
theorem fits167 : fits Tryz.prog false Tryz.f167 2 29 [(4, none)] = some c167.er := by kernel_rfl
def c166L1 : C := (.seq (.reg [⟨some 11, 176, none, .bi false .lss (.t 10) (.t 9)⟩])
 (.seq (.cond (.t 11) .skip (.exit 0))
 (.seq (.block 1 (.seq (.reg [⟨some 12, 192, none, .ia 4 (.t 8) (.t 10)⟩,⟨some 13, 208, none, .ld 4 true (.t 12)⟩,⟨some 4, 64, none, .al [(.int .i64 0), (.int .i64 0), (.int .i64 0), (.int .i64 0)]⟩,⟨none, 0, none, .st 4 (.t 4) (.t 13)⟩])
 (.block 2 (.seq (.reg [⟨some 15, 240, none, .fa 0 (.t 4)⟩,⟨some 16, 256, none, .ld 1 false (.t 15)⟩,⟨some 17, 272, none, .call (.c (.fn (.func 56) [] [])) [(.t 16), (.c (.int .i64 16777216))]⟩,⟨some 18, 288, none, .un false .not (.t 17)⟩,⟨some 14, 224, none, .mv (.t 18)⟩])
 (.cond (.t 14) (.seq (.reg [⟨some 2, 32, none, .mv (.c (.int .i64 6))⟩])
 .ret) (.seq (.reg [⟨some 20, 320, none, .fa 1 (.t 4)⟩,⟨some 21, 336, none, .ld 1 false (.t 20)⟩,⟨some 22, 352, none, .call (.c (.fn (.func 56) [] [])) [(.t 21), (.c (.int .i64 10000))]⟩,⟨some 23, 368, none, .un false .not (.t 22)⟩,⟨some 24, 384, none, .mv (.t 23)⟩,⟨some 25, 400, (some (24, false)), .fa 2 (.t 4)⟩,⟨some 26, 416, (some (24, false)), .ld 2 true (.t 25)⟩,⟨some 27, 432, (some (24, false)), .call (.c (.fn (.func 137) [] [])) [(.t 26)]⟩,⟨some 28, 448, (some (24, false)), .un false .not (.t 27)⟩,⟨some 29, 464, none, .pick (.t 24) (.c (.bool true)) (.t 28)⟩,⟨some 19, 304, none, .mv (.t 29)⟩])
 (.cond (.t 19) (.seq (.reg [⟨some 2, 32, none, .mv (.c (.int .i64 1))⟩])
 .ret) .skip)))))))
 (.reg [⟨some 30, 480, none, .bi false .add (.t 10) (.c (.int .i64 1))⟩,⟨some 10, 160, none, .mv (.t 30)⟩]))))
def c166 : C := (.seq (.reg [⟨some 2, 32, none, .mv (.c (.int .i64 0))⟩])
 (.seq (.seq (.reg [⟨some 5, 80, none, .mv (.t 0)⟩,⟨some 6, 96, none, .len (.t 5)⟩,⟨some 7, 112, none, .bi false .gtr (.t 6) (.c (.int .i64 200))⟩])
 (.cond (.t 7) (.seq (.reg [⟨some 2, 32, none, .mv (.c (.int .i64 10))⟩])
 .ret) .skip))
 (.seq (.seq (.reg [⟨some 8, 128, none, .mv (.t 0)⟩,⟨some 9, 144, none, .len (.t 8)⟩,⟨some 10, 160, none, .mv (.c (.int .i64 0))⟩])
 (.block 0 (.loop c166L1)))
 (.seq (.reg [⟨some 2, 32, none, .mv (.c (.int .i64 0))⟩])
 .ret))))
theorem fits166 : fits Tryz.prog false Tryz.f166 1 31 [(2, none)] = some c166.er := by kernel_rfl
def c109 : C := (.seq (.reg [⟨some 8, 128, none, .mv (.c (.int .i64 0))⟩])
 (.seq (.seq (.reg [⟨some 10, 160, none, .mv (.t 0)⟩,⟨some 11, 176, none, .call (.c (.fn (.func 166) [] [])) [(.t 10)]⟩,⟨some 9, 144, none, .mv (.t 11)⟩])
 (.seq (.reg [⟨some 12, 192, none, .mv (.t 9)⟩,⟨some 13, 208, none, .bi false .neq (.t 12) (.c (.int .i64 0))⟩])
 (.cond (.t 13) (.seq (.reg [⟨some 14, 224, none, .mv (.t 9)⟩,⟨some 8, 128, none, .mv (.t 14)⟩])
 .ret) .skip)))
 (.seq (.seq (.reg [⟨some 15, 240, none, .mv (.t 1)⟩,⟨some 16, 256, none, .call (.c (.fn (.func 139) [] [])) [(.t 15)]⟩,⟨some 17, 272, none, .un false .not (.t 16)⟩,⟨some 18, 288, none, .mv (.t 17)⟩,⟨some 19, 304, (some (18, false)), .mv (.t 2)⟩,⟨some 20, 320, (some (18, false)), .mv (.t 3)⟩,⟨some 21, 336, (some (18, false)), .call (.c (.fn (.func 56) [] [])) [(.t 19), (.t 20)]⟩,⟨some 22, 352, (some (18, false)), .un false .not (.t 21)⟩,⟨some 23, 368, none, .pick (.t 18) (.c (.bool true)) (.t 22)⟩])
 (.cond (.t 23) (.seq (.reg [⟨some 8, 128, none, .mv (.c (.int .i64 1))⟩])
 .ret) .skip))
 (.seq (.reg [⟨some 8, 128, none, .mv (.c (.int .i64 0))⟩])
 .ret))))
theorem fits109 : fits Tryz.prog false Tryz.f109 4 24 [(8, none)] = some c109.er := by kernel_rfl
set_option maxRecDepth 100000 in
set_option maxHeartbeats 4000000 in
theorem call167 (τ : Nat) (l : List Rt) (hl : l.length ≤ 7) (day : Int) : PureCall Tryz.prog 167 [.sl τ 4 l.length (fl eRt l), .int .i64 day] [] ⟨.sl 0 1 (ordR l day).length (fl eInt (ordR l day)), [], []⟩ := by
 refine pure_call mix Tryz.func167 fits167 rfl ?_
 conv => whnf
 refine ⟨?_, ?_⟩
 ·exact g0
 refine LSem.adopt 5 1000000 3 1 1 rfl rfl ?_
 refine LSem.loop (n := 29) mix (α := Nat) (fun i => i ≤ l.length)
  (fun i => [(0, .sl τ 4 l.length (fl eRt l)), (1, .int .i64 day), (5, .os 1000000), (8, .sl τ 4 l.length (fl eRt l)), (9, .int .i64 l.length), (10, .int .i64 i)])
  (fun i => [(1000000, .row 0 3 1 (onL l day i).length (fl eInt (onL l day i)))]) (fun i => l.length - i) 0 ?_ ?_ ?_
 ·exact Nat.zero_le _
 ·refine ⟨rfl, rfl, ?_, ?_⟩
  all_goals repeat' (first | exact True.intro | refine leF_cons rfl ?_ ?_ | refine leS_cons rfl ?_ ?_ | (show PLe _ _ _ _; conv => whnf) | (show SLe _ _ _ _; conv => whnf) | (show PLeL _ _ _ _; conv => whnf) | apply And.intro | rfl | exact Nat.le_refl _ | exact fun _ _ => rfl | exact rowEq0 _ _)
 ·intro i hi
  have e1 : ((i : Int)).toNat = i := by omega
  have hlen := onL_len (l := l) (day := day) i
  conv => whnf
  refine ⟨trivial, fun hc => ?_, fun hc => ?_⟩
  ·replace hc := of_decide_eq_true hc
   have hlt : i < l.length := by omega
   conv => whnf
   refine ⟨_, fun _ => call197 (l.getD ((i : Int)).toNat default).f (l.getD ((i : Int)).toNat default).u day, ?_⟩
   rw [e1]
   conv => whnf
   refine ⟨?_, fun hc2 => ?_, fun hc2 => ?_⟩
   ·exact g0
   ·have hs : onL l day (i + 1) = onL l day i ++ [(i : Int)] := if_pos hc2
    have q := fl_push eInt (onL l day i) (i : Int)
    conv => whnf
    refine ⟨?_, i + 1, hlt, by omega, rfl, rfl, ?_, ?_⟩
    ·exact g0
    all_goals repeat' (first | exact True.intro | refine leF_cons rfl ?_ ?_ | refine leS_cons rfl ?_ ?_ | (show PLe _ _ _ _; conv => whnf) | (show SLe _ _ _ _; conv => whnf) | (show PLeL _ _ _ _; conv => whnf) | apply And.intro | rfl | exact Nat.le_refl _ | exact fun _ _ => rfl | exact rowEq0 _ _)
    all_goals first | (rw [hs]; exact q) | (rw [hs]; simp; done) | omega | skip
   ·have hs : onL l day (i + 1) = onL l day i := if_neg (by rw [hc2]; exact Bool.noConfusion)
    conv => whnf
    refine ⟨?_, i + 1, hlt, by omega, rfl, rfl, ?_, ?_⟩
    ·exact g0
    all_goals repeat' (first | exact True.intro | refine leF_cons rfl ?_ ?_ | refine leS_cons rfl ?_ ?_ | (show PLe _ _ _ _; conv => whnf) | (show SLe _ _ _ _; conv => whnf) | (show PLeL _ _ _ _; conv => whnf) | apply And.intro | rfl | exact Nat.le_refl _ | exact fun _ _ => rfl | exact rowEq0 _ _)
    all_goals first | (rw [hs]; done) | (rw [hs]; exact fun _ _ => rfl) | omega | skip
  ·replace hc := of_decide_eq_false hc
   have : i = l.length := by omega
   subst this
   have hr : RowEq (onL l day l.length).length (eR (insN (rkR l) (fun k => (onL l day l.length).getD k default) (onL l day l.length).length)) (fl eInt (ordR l day)) := fun k hk => by
    unfold fl ordR
    rw [getD_map_range hk]
    rfl
   have hol := ordR_len l day
   conv => whnf
   refine ⟨_, fun _ => call210 _ l (by omega) (onL l day l.length).length (by omega) (fun k => (onL l day l.length).getD k default) (fun k hk => onL_mem _ _ (getD_mem hk)), ?_⟩
   conv => whnf
   refine ⟨?_, [], ?_⟩
   ·exact g0
   conv => whnf
   refine ⟨rfl, ?_, trivial, trivial⟩
   all_goals repeat' (first | exact True.intro | refine leF_cons rfl ?_ ?_ | refine leS_cons rfl ?_ ?_ | (show PLe _ _ _ _; conv => whnf) | (show SLe _ _ _ _; conv => whnf) | (show PLeL _ _ _ _; conv => whnf) | apply And.intro | rfl | exact Nat.le_refl _ | exact fun _ _ => rfl | exact rowEq0 _ _)
   all_goals first | exact hol.symm | exact hr
structure RtV (r : Rt) : Prop where
 d : wi r.d 16777216 = true
 w : wi r.w 10000 = true
 s : (wi r.f 364 && wi r.u 364) = true
set_option maxRecDepth 100000 in
set_option maxHeartbeats 4000000 in
theorem call166 (τ : Nat) (l : List Rt) (hl : l.length ≤ 200) (h : ∀ i, i < l.length → RtV (l.getD i default)) : PureCall Tryz.prog 166 [.sl τ 4 l.length (fl eRt l)] [] ⟨.int .i64 0, [], []⟩ := by
 refine pure_call mix Tryz.func166 fits166 rfl ?_
 conv => whnf
 refine ⟨?_, fun hc => ?_, fun _ => ?_⟩
 ·exact g0
 ·simp only [bp] at hc
  omega
 conv => whnf
 refine ⟨?_, ?_⟩
 ·exact g0
 refine LSem.loop (n := 31) mix (α := Nat) (fun i => i ≤ l.length)
  (fun i => [(8, .sl τ 4 l.length (fl eRt l)), (9, .int .i64 l.length), (10, .int .i64 i)])
  (fun i => []) (fun i => l.length - i) 0 ?_ ?_ ?_
 ·exact Nat.zero_le _
 ·refine ⟨rfl, rfl, ?_, ?_⟩
  all_goals repeat' (first | exact True.intro | refine leF_cons rfl ?_ ?_ | refine leS_cons rfl ?_ ?_ | (show PLe _ _ _ _; conv => whnf) | (show SLe _ _ _ _; conv => whnf) | (show PLeL _ _ _ _; conv => whnf) | apply And.intro | rfl | exact Nat.le_refl _ | exact fun _ _ => rfl | exact rowEq0 _ _)
 ·intro i hi
  have e1 : ((i : Int)).toNat = i := by omega
  conv => whnf
  refine ⟨trivial, fun hc => ?_, fun hc => ?_⟩
  ·replace hc := of_decide_eq_true hc
   have hlt : i < l.length := by omega
   obtain ⟨g1, g2, g3⟩ := h i hlt
   conv => whnf
   refine ⟨_, fun _ => call56 (l.getD ((i : Int)).toNat default).d 16777216, ?_⟩
   rw [e1, g1]
   conv => whnf
   refine ⟨?_, fun hc => (by cases hc), fun _ => ?_⟩
   ·exact g0
   conv => whnf
   refine ⟨_, fun _ => call56 (l.getD i default).w 10000, ?_⟩
   rw [g2]
   conv => whnf
   refine ⟨_, fun _ => call137 (l.getD i default).f (l.getD i default).u, ?_⟩
   rw [g3]
   conv => whnf
   refine ⟨?_, fun hc => (by cases hc), fun _ => ?_⟩
   ·exact g0
   conv => whnf
   refine ⟨?_, i + 1, hlt, by omega, rfl, rfl, ?_, ?_⟩
   ·exact g0
   all_goals repeat' (first | exact True.intro | refine leF_cons rfl ?_ ?_ | refine leS_cons rfl ?_ ?_ | (show PLe _ _ _ _; conv => whnf) | (show SLe _ _ _ _; conv => whnf) | (show PLeL _ _ _ _; conv => whnf) | apply And.intro | rfl | exact Nat.le_refl _ | exact fun _ _ => rfl | exact rowEq0 _ _)
   all_goals omega
  ·conv => whnf
   refine ⟨?_, [], ?_⟩
   ·exact g0
   conv => whnf
   refine ⟨rfl, ?_, trivial, trivial⟩
   all_goals repeat' (first | exact True.intro | refine leF_cons rfl ?_ ?_ | refine leS_cons rfl ?_ ?_ | (show PLe _ _ _ _; conv => whnf) | (show SLe _ _ _ _; conv => whnf) | (show PLeL _ _ _ _; conv => whnf) | apply And.intro | rfl | exact Nat.le_refl _ | exact fun _ _ => rfl | exact rowEq0 _ _)
theorem call109 (τ : Nat) (l : List Rt) (hl : l.length ≤ 200) (h : ∀ i, i < l.length → RtV (l.getD i default)) (day n : Int) (hd : wi day 364 = true) (hn : wi n 1073741824 = true) :
  PureCall Tryz.prog 109 [.sl τ 4 l.length (fl eRt l), .int .i64 day, .int .i64 n, .int .i64 1073741824] [] ⟨.int .i64 0, [], []⟩ := by
 refine pure_call mix Tryz.func109 fits109 rfl ?_
 conv => whnf
 refine ⟨_, fun _ => call166 _ l hl h, ?_⟩
 conv => whnf
 refine ⟨?_, fun hc => (by cases hc), fun _ => ?_⟩
 ·exact g0
 conv => whnf
 refine ⟨_, fun _ => call139 day, ?_⟩
 rw [hd]
 conv => whnf
 refine ⟨_, fun _ => call56 n 1073741824, ?_⟩
 rw [hn]
 conv => whnf
 refine ⟨?_, fun hc => (by cases hc), fun _ => ?_⟩
 ·exact g0
 conv => whnf
 refine ⟨?_, [], ?_⟩
 ·exact g0
 conv => whnf
 refine ⟨rfl, ?_, trivial, trivial⟩
 all_goals repeat' (first | exact True.intro | refine leF_cons rfl ?_ ?_ | refine leS_cons rfl ?_ ?_ | (show PLe _ _ _ _; conv => whnf) | (show SLe _ _ _ _; conv => whnf) | (show PLeL _ _ _ _; conv => whnf) | apply And.intro | rfl | exact Nat.le_refl _ | exact fun _ _ => rfl | exact rowEq0 _ _)
end Pv
end Go.Proofs.YtdcgnfkkklbckaaGreatDoor
/- TOP, THE WALKS: shares. -/
set_option linter.unusedSimpArgs false
set_option linter.unusedVariables false
namespace Go.Proofs.YtdcgnfkkklbckaaGreatDoor
namespace Pv
def c212 : C := (.seq (.reg [⟨some 2, 32, none, .mv (.c (.bool false))⟩])
 (.seq (.reg [⟨some 3, 48, none, .mv (.t 0)⟩,⟨some 4, 64, none, .call (.c (.fn (.func 56) [] [])) [(.t 3), (.c (.int .i64 10000))]⟩,⟨some 5, 80, none, .un false .not (.t 4)⟩,⟨some 2, 32, none, .mv (.t 5)⟩])
 .ret))
theorem fits212 : fits Tryz.prog false Tryz.f212 1 6 [(2, none)] = some c212.er := by kernel_rfl
def c213 : C := (.seq (.reg [⟨some 7, 112, none, .mv (.c (.int .i64 0))⟩])
 (.seq (.drw [⟨some 8, 128, none, .ld 1 false (.t 2)⟩,⟨some 9, 144, none, .ld 1 false (.t 3)⟩,⟨some 10, 160, none, .mv (.t 1)⟩,⟨some 11, 176, none, .ia 1 (.t 9) (.t 10)⟩,⟨some 12, 192, none, .ld 1 false (.t 11)⟩,⟨some 13, 208, none, .bi false .mul (.t 8) (.t 12)⟩,⟨some 14, 224, none, .ld 1 false (.t 4)⟩,⟨some 15, 240, none, .bi false .rem (.t 13) (.t 14)⟩,⟨some 16, 256, none, .ld 1 false (.t 2)⟩,⟨some 17, 272, none, .ld 1 false (.t 3)⟩,⟨some 18, 288, none, .mv (.t 0)⟩,⟨some 19, 304, none, .ia 1 (.t 17) (.t 18)⟩,⟨some 20, 320, none, .ld 1 false (.t 19)⟩,⟨some 21, 336, none, .bi false .mul (.t 16) (.t 20)⟩,⟨some 22, 352, none, .ld 1 false (.t 4)⟩,⟨some 23, 368, none, .bi false .rem (.t 21) (.t 22)⟩,⟨some 24, 384, none, .bi false .sub (.t 15) (.t 23)⟩,⟨some 7, 112, none, .mv (.t 24)⟩]
  [(0, 1, 8), (0, 2, 8), (0, 3, 8), (0, 4, 8), (0, 6, 8), (0, 8, 8), (0, 9, 8), (0, 10, 8), (0, 11, 8), (0, 12, 8), (0, 13, 8), (0, 14, 8), (0, 15, 8), (1, 2, 9), (1, 6, 9), (1, 8, 9), (1, 9, 9), (1, 10, 9), (1, 11, 9), (1, 12, 9), (1, 13, 9), (1, 14, 9), (1, 15, 9), (2, 6, 10), (2, 8, 10), (2, 9, 10), (2, 10, 10), (2, 11, 10), (2, 12, 10), (2, 13, 10), (2, 14, 10), (2, 15, 10), (3, 6, 11), (3, 8, 11), (3, 9, 11), (3, 10, 11), (3, 11, 11), (3, 12, 11), (3, 13, 11), (3, 14, 11), (3, 15, 11), (4, 6, 12), (4, 8, 12), (4, 9, 12), (4, 10, 12), (4, 11, 12), (4, 12, 12), (4, 13, 12), (4, 14, 12), (4, 15, 12), (5, 6, 13), (5, 8, 13), (5, 9, 13), (5, 10, 13), (5, 11, 13), (5, 12, 13), (5, 13, 13), (5, 14, 13), (5, 15, 13), (6, 8, 14), (6, 9, 14), (6, 10, 14), (6, 11, 14), (6, 12, 14), (6, 13, 14), (6, 14, 14), (6, 15, 14), (7, 8, 15), (7, 9, 15), (7, 10, 15), (7, 11, 15), (7, 12, 15), (7, 13, 15), (7, 14, 15), (7, 15, 15), (8, 9, 16), (8, 10, 16), (8, 11, 16), (8, 12, 16), (8, 14, 16), (9, 10, 17), (9, 14, 17), (10, 14, 18), (11, 14, 19), (12, 14, 20), (13, 14, 21)])
 .ret))
theorem fits213 : fits Tryz.prog false Tryz.f213 5 25 [(7, none)] = some c213.er := by kernel_rfl
def c168L1 : C := (.seq (.reg [⟨some 31, 496, none, .bi false .lss (.t 30) (.t 29)⟩])
 (.seq (.cond (.t 31) .skip (.exit 0))
 (.seq (.block 1 (.seq (.reg [⟨some 32, 512, none, .ia 1 (.t 28) (.t 30)⟩,⟨some 33, 528, none, .ld 1 false (.t 32)⟩,⟨some 9, 144, none, .mv (.t 33)⟩])
 (.reg [⟨some 34, 544, none, .ld 1 false (.t 7)⟩,⟨some 35, 560, none, .mv (.t 9)⟩,⟨some 36, 576, none, .bi false .add (.t 34) (.t 35)⟩,⟨none, 0, none, .st 1 (.t 7) (.t 36)⟩])))
 (.reg [⟨some 37, 592, none, .bi false .add (.t 30) (.c (.int .i64 1))⟩,⟨some 30, 480, none, .mv (.t 37)⟩]))))
def c168L2 : C := (.seq (.reg [⟨some 49, 784, none, .bi false .lss (.t 48) (.t 47)⟩])
 (.seq (.cond (.t 49) .skip (.exit 2))
 (.seq (.block 3 (.seq (.reg [⟨some 50, 800, none, .mv (.t 48)⟩,⟨some 51, 816, none, .ia 1 (.t 46) (.t 48)⟩,⟨some 52, 832, none, .ld 1 false (.t 51)⟩,⟨some 13, 208, none, .mv (.t 50)⟩,⟨some 14, 224, none, .mv (.t 52)⟩])
 (.seq (.reg [⟨some 53, 848, none, .mv (.t 11)⟩,⟨some 54, 864, none, .ld 1 false (.t 2)⟩,⟨some 55, 880, none, .mv (.t 14)⟩,⟨some 56, 896, none, .bi false .mul (.t 54) (.t 55)⟩,⟨some 57, 912, none, .ld 1 false (.t 7)⟩,⟨some 58, 928, none, .bi false .quo (.t 56) (.t 57)⟩,⟨some 59, 944, none, .bs 3 1 [(.t 58)]⟩,⟨some 60, 960, none, .app 3 1 8 (.t 53) (.t 59)⟩,⟨some 61, 976, none, .mv (.t 12)⟩,⟨some 62, 992, none, .mv (.t 13)⟩,⟨some 63, 1008, none, .bs 3 1 [(.t 62)]⟩,⟨some 64, 1024, none, .app 3 1 8 (.t 61) (.t 63)⟩,⟨some 11, 176, none, .mv (.t 60)⟩,⟨some 12, 192, none, .mv (.t 64)⟩])
 (.cut (.reg [⟨some 65, 1040, none, .mv (.t 10)⟩,⟨some 66, 1056, none, .mv (.t 11)⟩,⟨some 67, 1072, none, .mv (.t 13)⟩,⟨some 68, 1088, none, .ia 1 (.t 66) (.t 67)⟩,⟨some 69, 1104, none, .ld 1 false (.t 68)⟩,⟨some 70, 1120, none, .bi false .sub (.t 65) (.t 69)⟩,⟨some 10, 160, none, .mv (.t 70)⟩])))))
 (.reg [⟨some 71, 1136, none, .bi false .add (.t 48) (.c (.int .i64 1))⟩,⟨some 48, 768, none, .mv (.t 71)⟩]))))
def c168L3 : C := (.seq (.reg [⟨some 80, 1280, none, .bi false .lss (.t 79) (.t 78)⟩])
 (.seq (.cond (.t 80) .skip (.exit 4))
 (.seq (.block 5 (.seq (.reg [⟨some 81, 1296, none, .ia 1 (.t 77) (.t 79)⟩,⟨some 82, 1312, none, .ld 1 false (.t 81)⟩,⟨some 16, 256, none, .mv (.t 82)⟩])
 (.reg [⟨some 83, 1328, none, .mv (.t 11)⟩,⟨some 84, 1344, none, .mv (.t 16)⟩,⟨some 85, 1360, none, .ia 1 (.t 83) (.t 84)⟩,⟨some 86, 1376, none, .ld 1 false (.t 85)⟩,⟨some 87, 1392, none, .bi false .add (.t 86) (.c (.int .i64 1))⟩,⟨some 88, 1408, none, .ia 1 (.t 83) (.t 84)⟩,⟨none, 0, none, .st 1 (.t 88) (.t 87)⟩])))
 (.reg [⟨some 89, 1424, none, .bi false .add (.t 79) (.c (.int .i64 1))⟩,⟨some 79, 1264, none, .mv (.t 89)⟩]))))
def c168 : C := (.seq (.reg [⟨some 2, 32, none, .bx 1 (.t 0)⟩,⟨some 3, 48, none, .bx 1 (.t 1)⟩,⟨some 4, 64, none, .mv (.c (.nil 1))⟩,⟨some 5, 80, none, .mv (.c (.int .i64 0))⟩])
 (.seq (.reg [⟨some 6, 96, none, .mv (.c (.fn (.func 212) [] []))⟩])
 (.seq (.seq (.reg [⟨some 17, 272, none, .ld 1 false (.t 2)⟩,⟨some 18, 288, none, .call (.c (.fn (.func 56) [] [])) [(.t 17), (.c (.int .i64 274877906944))]⟩,⟨some 19, 304, none, .un false .not (.t 18)⟩,⟨some 20, 320, none, .mv (.t 19)⟩,⟨some 21, 336, (some (20, false)), .ld 1 false (.t 3)⟩,⟨some 22, 352, (some (20, false)), .mv (.t 6)⟩,⟨some 23, 368, (some (20, false)), .call (.c (.fn (.func 54) [] [])) [(.t 21), (.t 22)]⟩,⟨some 24, 384, none, .pick (.t 20) (.c (.bool true)) (.t 23)⟩])
 (.cond (.t 24) (.seq (.reg [⟨some 4, 64, none, .mv (.c (.nil 1))⟩,⟨some 5, 80, none, .mv (.c (.int .i64 1))⟩])
 .ret) .skip))
 (.seq (.seq (.reg [⟨some 25, 400, none, .ld 1 false (.t 3)⟩,⟨some 26, 416, none, .len (.t 25)⟩,⟨some 27, 432, none, .bi false .gtr (.t 26) (.c (.int .i64 4096))⟩])
 (.cond (.t 27) (.seq (.reg [⟨some 4, 64, none, .mv (.c (.nil 1))⟩,⟨some 5, 80, none, .mv (.c (.int .i64 10))⟩])
 .ret) .skip))
 (.seq (.reg [⟨some 7, 112, none, .al [(.int .i64 0)]⟩,⟨none, 0, none, .st 1 (.t 7) (.c (.int .i64 0))⟩])
 (.seq (.seq (.reg [⟨some 28, 448, none, .ld 1 false (.t 3)⟩,⟨some 29, 464, none, .len (.t 28)⟩,⟨some 30, 480, none, .mv (.c (.int .i64 0))⟩])
 (.block 0 (.loop c168L1)))
 (.seq (.seq (.reg [⟨some 38, 608, none, .ld 1 false (.t 7)⟩,⟨some 39, 624, none, .bi false .eql (.t 38) (.c (.int .i64 0))⟩])
 (.cond (.t 39) (.seq (.seq (.reg [⟨some 40, 640, none, .ld 1 false (.t 2)⟩,⟨some 41, 656, none, .bi false .gtr (.t 40) (.c (.int .i64 0))⟩])
 (.cond (.t 41) (.seq (.reg [⟨some 4, 64, none, .mv (.c (.nil 1))⟩,⟨some 5, 80, none, .mv (.c (.int .i64 2))⟩])
 .ret) .skip))
 (.seq (.reg [⟨some 42, 672, none, .ld 1 false (.t 3)⟩,⟨some 43, 688, none, .len (.t 42)⟩,⟨some 44, 704, none, .mks 3 1 8 [(.int .i64 0)] (.t 43) (.t 43)⟩,⟨some 4, 64, none, .mv (.t 44)⟩,⟨some 5, 80, none, .mv (.c (.int .i64 0))⟩])
 .ret)) .skip))
 (.seq (.reg [⟨some 45, 720, none, .ld 1 false (.t 2)⟩,⟨some 10, 160, none, .mv (.t 45)⟩])
 (.seq (.reg [⟨some 11, 176, none, .mv (.c (.nil 1))⟩,⟨some 12, 192, none, .mv (.c (.nil 1))⟩])
 (.seq (.seq (.reg [⟨some 46, 736, none, .ld 1 false (.t 3)⟩,⟨some 47, 752, none, .len (.t 46)⟩,⟨some 48, 768, none, .mv (.c (.int .i64 0))⟩])
 (.block 2 (.loop c168L2)))
 (.seq (.reg [⟨some 72, 1152, none, .mv (.t 12)⟩,⟨some 73, 1168, none, .mf (.func 213) [] [(.t 2), (.t 3), (.t 7)]⟩,⟨some 74, 1184, none, .call (.c (.fn (.func 195) [] [])) [(.t 72), (.t 73)]⟩])
 (.seq (.seq (.reg [⟨some 75, 1200, none, .mv (.t 12)⟩,⟨some 76, 1216, none, .mv (.t 10)⟩,⟨some 77, 1232, none, .slc 1 (.t 75) none (some (.t 76))⟩,⟨some 78, 1248, none, .len (.t 77)⟩,⟨some 79, 1264, none, .mv (.c (.int .i64 0))⟩])
 (.block 4 (.loop c168L3)))
 (.seq (.reg [⟨some 90, 1440, none, .mv (.t 11)⟩,⟨some 4, 64, none, .mv (.t 90)⟩,⟨some 5, 80, none, .mv (.c (.int .i64 0))⟩])
 .ret)))))))))))))
theorem fits168 : fits Tryz.prog false Tryz.f168 2 91 [(4, none), (5, none)] = some c168.er := by kernel_rfl
theorem call212 (n : Int) : PureCall Tryz.prog 212 [.int .i64 n] [] ⟨.bool (!wi n 10000), [], []⟩ := by
 refine pure_call mix Tryz.func212 fits212 rfl ?_
 conv => whnf
 refine ⟨_, fun _ => call56 n 10000, ?_⟩
 conv => whnf
 refine ⟨?_, [], ?_⟩
 ·exact g0
 conv => whnf
 refine ⟨rfl, ?_, trivial, trivial⟩
 all_goals repeat' (first | exact True.intro | refine leF_cons rfl ?_ ?_ | refine leS_cons rfl ?_ ?_ | (show PLe _ _ _ _; conv => whnf) | (show SLe _ _ _ _; conv => whnf) | (show PLeL _ _ _ _; conv => whnf) | apply And.intro | rfl | exact Nat.le_refl _ | exact fun _ _ => rfl | exact rowEq0 _ _)
theorem call122i (ρ : Nat) (l : List Int) (hn : l.length ≤ 4611686018427387904) (hg : ∀ x ∈ l, wi x 10000 = true) :
  PureCall Tryz.prog 122 [.sl ρ 1 l.length (fl eInt l), .fn (.func 212) [] []] [] ⟨.int .i64 (-1), [], []⟩ := by
 refine pure_call mix Tryz.func122 fits122 rfl ?_
 conv => whnf
 refine ⟨trivial, ?_⟩
 refine LSem.loop (n := 19) mix (α := Nat) (fun i => i ≤ l.length)
  (fun i => [(0, .sl ρ 1 l.length (fl eInt l)), (1, .fn (.func 212) [] []), (7, .int .i64 l.length), (8, .int .i64 i)])
  (fun i => []) (fun i => l.length - i) 0 ?_ ?_ ?_
 ·exact Nat.zero_le _
 ·refine ⟨rfl, rfl, ?_, ?_⟩
  all_goals repeat' (first | exact True.intro | refine leF_cons rfl ?_ ?_ | refine leS_cons rfl ?_ ?_ | (show PLe _ _ _ _; conv => whnf) | (show SLe _ _ _ _; conv => whnf) | (show PLeL _ _ _ _; conv => whnf) | apply And.intro | rfl | exact Nat.le_refl _ | exact fun _ _ => rfl | exact rowEq0 _ _)
 ·intro i hi
  have hj : ((i : Int)).toNat = i := by omega
  conv => whnf
  refine ⟨trivial, fun hc => ?_, fun hc => ?_⟩
  ·replace hc := of_decide_eq_true hc
   have hlt : i < l.length := by omega
   have hm : l.getD i default ∈ l := by
    rw [List.getD_eq_getElem?_getD, List.getElem?_eq_getElem hlt]; exact List.getElem_mem hlt
   conv => whnf
   refine ⟨_, fun _ => call212 (l.getD ((i : Int)).toNat default), ?_⟩
   rw [hj, hg _ hm]
   conv => whnf
   refine ⟨?_, fun hc2 => (by cases hc2), fun hc2 => ?_⟩
   ·exact g0
   conv => whnf
   refine ⟨?_, i + 1, hlt, ?_, rfl, rfl, ?_, ?_⟩
   ·exact g0
   ·omega
   all_goals repeat' (first | exact True.intro | refine leF_cons rfl ?_ ?_ | refine leS_cons rfl ?_ ?_ | (show PLe _ _ _ _; conv => whnf) | (show SLe _ _ _ _; conv => whnf) | (show PLeL _ _ _ _; conv => whnf) | apply And.intro | rfl | exact Nat.le_refl _ | exact fun _ _ => rfl | exact rowEq0 _ _)
   all_goals omega
  ·replace hc := of_decide_eq_false hc
   conv => whnf
   refine ⟨?_, [], ?_⟩
   ·exact g0
   conv => whnf
   refine ⟨rfl, ?_, trivial, trivial⟩
   all_goals repeat' (first | exact True.intro | refine leF_cons rfl ?_ ?_ | refine leS_cons rfl ?_ ?_ | (show PLe _ _ _ _; conv => whnf) | (show SLe _ _ _ _; conv => whnf) | (show PLeL _ _ _ _; conv => whnf) | apply And.intro | rfl | exact Nat.le_refl _ | exact fun _ _ => rfl | exact rowEq0 _ _)
theorem call54i (ρ : Nat) (l : List Int) (hn : l.length ≤ 4611686018427387904) (hg : ∀ x ∈ l, wi x 10000 = true) :
  PureCall Tryz.prog 54 [.sl ρ 1 l.length (fl eInt l), .fn (.func 212) [] []] [] ⟨.bool false, [], []⟩ := by
 refine pure_call mix Tryz.func54 fits54 rfl ?_
 conv => whnf
 refine ⟨_, fun _ => call122i _ l hn hg, ?_⟩
 conv => whnf
 refine ⟨?_, [], ?_⟩
 ·exact g0
 conv => whnf
 refine ⟨rfl, ?_, trivial, trivial⟩
 all_goals repeat' (first | exact True.intro | refine leF_cons rfl ?_ ?_ | refine leS_cons rfl ?_ ?_ | (show PLe _ _ _ _; conv => whnf) | (show SLe _ _ _ _; conv => whnf) | (show PLeL _ _ _ _; conv => whnf) | apply And.intro | rfl | exact Nat.le_refl _ | exact fun _ _ => rfl | exact rowEq0 _ _)
def shV (av s : Int) (W : List Int) (a b : Int) : Int := av * W.getD b.toNat default % s - av * W.getD a.toNat default % s
theorem shV_lt {av s : Int} {W : List Int} {a b : Int} : shV av s W a b < 0 ↔ shR av s W a < shR av s W b := by
 unfold shV shR
 omega
theorem wt_rng {av : Int} {W : List Int} (hav : 0 ≤ av ∧ av ≤ 1073741824) (hW : ∀ x ∈ W, wi x 10000 = true) {k : Nat} (hk : k < W.length) : (0 ≤ W.getD k default ∧ W.getD k default ≤ 10000) ∧ 0 ≤ av * W.getD k default ∧ av * W.getD k default ≤ 1073741824 * 10000 := by
 have h := (wi_iff _ _).1 (hW _ (getD_mem hk))
 exact ⟨h, Int.mul_nonneg hav.1 h.1, Int.mul_le_mul hav.2 h.2 h.1 (by omega)⟩
theorem call213 (av s : Int) (W : List Int) (hWl : W.length ≤ 1000) (hav : 0 ≤ av ∧ av ≤ 1073741824) (hs : 0 < s ∧ s ≤ 1000000000) (hW : ∀ x ∈ W, wi x 10000 = true) (a b : Int) (ha : 0 ≤ a ∧ a < W.length) (hb : 0 ≤ b ∧ b < W.length) :
  PureCall Tryz.prog 213 [.int .i64 a, .int .i64 b, .rp 2 [.int .i64 av], .rp 2 [.sl 2 1 W.length (fl eInt W)], .rp 2 [.int .i64 s]] [] ⟨.int .i64 (shV av s W a b), [], []⟩ := by
 have m1 := (wt_rng hav hW (k := a.toNat) (by omega)).2
 have m2 := (wt_rng hav hW (k := b.toNat) (by omega)).2
 have d1 := Int.emod_nonneg (av * W.getD a.toNat default) (show s ≠ 0 by omega)
 have d2 := Int.emod_nonneg (av * W.getD b.toNat default) (show s ≠ 0 by omega)
 have d3 := Int.emod_lt_of_pos (av * W.getD a.toNat default) hs.1
 have d4 := Int.emod_lt_of_pos (av * W.getD b.toNat default) hs.1
 have t1 := Int.tmod_eq_emod_of_nonneg (b := s) m1.1
 have t2 := Int.tmod_eq_emod_of_nonneg (b := s) m2.1
 unfold shV
 rw [← t1] at d1 d3 ⊢
 rw [← t2] at d2 d4 ⊢
 clear t1 t2
 refine pure_call mix Tryz.func213 fits213 rfl ?_
 conv => whnf
 refine ⟨rfl, ?_⟩
 conv => whnf
 generalize (av * W.getD a.toNat default).tmod s = x at d1 d3 ⊢
 generalize (av * W.getD b.toNat default).tmod s = y at d2 d4 ⊢
 generalize av * W.getD a.toNat default = p at m1 ⊢
 generalize av * W.getD b.toNat default = q at m2 ⊢
 refine ⟨?_, [], ?_⟩
 ·exact g0
 conv => whnf
 refine ⟨rfl, ?_, trivial, trivial⟩
 all_goals repeat' (first | exact True.intro | refine leF_cons rfl ?_ ?_ | refine leS_cons rfl ?_ ?_ | (show PLe _ _ _ _; conv => whnf) | (show SLe _ _ _ _; conv => whnf) | (show PLeL _ _ _ _; conv => whnf) | apply And.intro | rfl | exact Nat.le_refl _ | exact fun _ _ => rfl | exact rowEq0 _ _)
set_option maxRecDepth 100000 in
set_option maxHeartbeats 4000000 in
theorem call297s (av s : Int) (W : List Int) (hWl : W.length ≤ 1000) (hav : 0 ≤ av ∧ av ≤ 1073741824) (hsp : 0 < s ∧ s ≤ 1000000000) (hW : ∀ x ∈ W, wi x 10000 = true) (n : Nat) (hn : n ≤ 4611686018427387904) (g : Nat → Int) (hg : ∀ k, k < n → 0 ≤ g k ∧ g k < W.length) :
  PureCall Tryz.prog 297 [.os 0, .int .i64 0, .int .i64 n, .fn (.func 213) [] [.rp 2 [.int .i64 av], .rp 2 [.sl 2 1 W.length (fl eInt W)], .rp 2 [.int .i64 s]]] [.row 3 3 1 n (eR g)] ⟨.tup [], [.row 0 3 1 n (eR (insN (shR av s W) g n))], []⟩ := by
 refine pure_write mix Tryz.func297 fits297 (.inr fun i _ c hc => by simp [eR] at hc; subst hc; rfl) ?_
 conv => whnf
 refine ⟨?_, ?_⟩
 ·exact g0
 refine LSem.loop (n := 53) mix (α := Nat) (fun i => i ≤ n + 1 ∧ 1 ≤ i ∧ (n < i → n = 0))
  (fun i => [(0, .os 0), (1, .int .i64 0), (2, .int .i64 n), (3, .fn (.func 213) [] [.rp 2 [.int .i64 av], .rp 2 [.sl 2 1 W.length (fl eInt W)], .rp 2 [.int .i64 s]]), (8, .int .i64 i)])
  (fun i => [(0, .row 3 3 1 n (eR (insN (shR av s W) g i)))]) (fun i => n + 1 - i) 1 ?_ ?_ ?_
 ·exact ⟨by omega, Nat.le_refl _, fun h => by omega⟩
 ·refine ⟨rfl, rfl, ?_, ?_⟩
  all_goals repeat' (first | exact True.intro | refine leF_cons rfl ?_ ?_ | refine leS_cons rfl ?_ ?_ | (show PLe _ _ _ _; conv => whnf) | (show SLe _ _ _ _; conv => whnf) | (show PLeL _ _ _ _; conv => whnf) | apply And.intro | rfl | exact Nat.le_refl _ | exact fun _ _ => rfl | exact rowEq0 _ _)
 ·intro i hi
  obtain ⟨hi1, hi2, hi3⟩ := hi
  conv => whnf
  refine ⟨trivial, fun hc => ?_, fun hc => ?_⟩
  ·replace hc := of_decide_eq_true hc
   have hlt : i < n := by omega
   conv => whnf
   refine ⟨trivial, ?_⟩
   refine LSem.loop (n := 53) mix (α := Nat × (Nat → Int)) (fun x => x.1 ≤ i ∧ sink (shR av s W) x.2 x.1 = insN (shR av s W) g (i + 1) ∧ ∀ k, k < n → 0 ≤ x.2 k ∧ x.2 k < W.length)
    (fun x => [(0, .os 0), (1, .int .i64 0), (2, .int .i64 n), (3, .fn (.func 213) [] [.rp 2 [.int .i64 av], .rp 2 [.sl 2 1 W.length (fl eInt W)], .rp 2 [.int .i64 s]]), (8, .int .i64 i), (9, .int .i64 x.1)])
    (fun x => [(0, .row 3 3 1 n (eR x.2))]) (fun x => x.1) (i, insN (shR av s W) g i) ?_ ?_ ?_
   ·exact ⟨Nat.le_refl _, rfl, insN_in (p := fun x => 0 ≤ x ∧ x < W.length) g hg i (by omega)⟩
   ·refine ⟨rfl, rfl, ?_, ?_⟩
    all_goals repeat' (first | exact True.intro | refine leF_cons rfl ?_ ?_ | refine leS_cons rfl ?_ ?_ | (show PLe _ _ _ _; conv => whnf) | (show SLe _ _ _ _; conv => whnf) | (show PLeL _ _ _ _; conv => whnf) | apply And.intro | rfl | exact Nat.le_refl _ | exact fun _ _ => rfl | exact rowEq0 _ _)
   ·rintro ⟨j, h⟩ ⟨hj, hs, hin⟩
    dsimp only at hj hs hin ⊢
    rcases Nat.eq_zero_or_pos j with h0 | h0
    ·subst h0
     conv => whnf
     refine ⟨⟨.int .i64 0, [], []⟩, fun hg => by simp at hg, ?_⟩
     conv => whnf
     refine ⟨rfl, ?_⟩
     conv => whnf
     refine ⟨?_, fun hc => by simp at hc, fun _ => ?_⟩
     ·exact g0
     conv => whnf
     refine ⟨?_, i + 1, ⟨by omega, by omega, fun h => by omega⟩, by omega, rfl, rfl, ?_, ?_⟩
     ·exact g0
     all_goals repeat' (first | exact True.intro | refine leF_cons rfl ?_ ?_ | refine leS_cons rfl ?_ ?_ | (show PLe _ _ _ _; conv => whnf) | (show SLe _ _ _ _; conv => whnf) | (show PLeL _ _ _ _; conv => whnf) | apply And.intro | rfl | exact Nat.le_refl _ | exact fun _ _ => rfl | exact rowEq0 _ _)
     all_goals (intro k hk; show eR h k = eR (insN (shR av s W) g (i + 1)) k; rw [← hs]; rfl)
    obtain ⟨j, rfl⟩ : ∃ j', j = j' + 1 := ⟨j - 1, by omega⟩
    have e1 : ((j + 1 : Nat) : Int).toNat = j + 1 := by omega
    have e2 : (((j + 1 : Nat) : Int) - 1).toNat = j := by omega
    conv => whnf
    refine ⟨_, fun _ => call213 av s W hWl hav hsp hW (h (((j + 1 : Nat) : Int)).toNat) (h (((j + 1 : Nat) : Int) - 1).toNat) (by rw [e1]; exact hin _ (by omega)) (by rw [e2]; exact hin _ (by omega)), ?_⟩
    rw [e1, e2]
    conv => whnf
    refine ⟨rfl, ?_⟩
    conv => whnf
    refine ⟨?_, fun hc => ?_, fun hc => ?_⟩
    ·exact g0
    ·simp only [bp] at hc
     have hlt2 : (shR av s W) (h (j + 1)) < (shR av s W) (h j) := shV_lt.1 hc.2
     conv => whnf
     refine ⟨rfl, ?_⟩
     conv => whnf
     refine ⟨?_, (j, swp h j), ⟨by dsimp only; omega, ?_, ?_⟩, Nat.lt_succ_self j, rfl, rfl, ?_, ?_⟩
     ·exact g0
     ·rw [← hs]
      exact (if_pos hlt2).symm
     ·intro k hk
      dsimp only
      unfold swp
      split
      ·exact hin _ (by omega)
      ·split
       ·exact hin _ (by omega)
       ·exact hin _ hk
     all_goals repeat' (first | exact True.intro | refine leF_cons rfl ?_ ?_ | refine leS_cons rfl ?_ ?_ | (show PLe _ _ _ _; conv => whnf) | (show SLe _ _ _ _; conv => whnf) | (show PLeL _ _ _ _; conv => whnf) | apply And.intro | rfl | exact Nat.le_refl _ | exact fun _ _ => rfl | exact rowEq0 _ _)
     all_goals first | (show ((j + 1 : Nat) : Int) - 1 = (j : Int); omega) | skip
     all_goals
      intro k hk
      dsimp only
      rw [e1, e2]
      by_cases hkj : k = j
      ·subst hkj
       rw [if_pos rfl, if_neg (by omega)]
       simp [eR, swp, setAt, PV.cells]
      ·rw [if_neg hkj]
       by_cases hk1 : k = j + 1
       ·subst hk1
        rw [if_pos rfl]
        simp [eR, swp, setAt, PV.cells]
       ·rw [if_neg hk1]
        simp [eR, swp, hkj, hk1]
    ·simp only [bp] at hc
     have hge2 : ¬ (shR av s W) (h (j + 1)) < (shR av s W) (h j) := by
      intro hh
      rcases hc with hc | hc
      ·exact hc.2 (shV_lt.2 hh)
      ·omega
     conv => whnf
     refine ⟨?_, i + 1, ⟨by omega, by omega, fun h => by omega⟩, by omega, rfl, rfl, ?_, ?_⟩
     ·exact g0
     all_goals repeat' (first | exact True.intro | refine leF_cons rfl ?_ ?_ | refine leS_cons rfl ?_ ?_ | (show PLe _ _ _ _; conv => whnf) | (show SLe _ _ _ _; conv => whnf) | (show PLeL _ _ _ _; conv => whnf) | apply And.intro | rfl | exact Nat.le_refl _ | exact fun _ _ => rfl | exact rowEq0 _ _)
     all_goals (intro k hk; show eR h k = eR (insN (shR av s W) g (i + 1)) k; rw [← hs]; show _ = eR (sink (shR av s W) h (j + 1)) k; unfold sink; rw [if_neg hge2])
  ·replace hc := of_decide_eq_false hc
   have hge : ¬ (i < n) := by omega
   conv => whnf
   have hrow : RowEq n (eR (insN (shR av s W) g i)) (eR (insN (shR av s W) g n)) := by
    rcases Nat.lt_or_ge n i with h1 | h1
    ·rw [hi3 h1]; exact rowEq0 _ _
    ·have : i = n := by omega
     rw [this]; exact fun _ _ => rfl
   exact ⟨trivial, rfl, rfl, rfl, rfl, hrow⟩
theorem call251s (av s : Int) (W : List Int) (hWl : W.length ≤ 1000) (hav : 0 ≤ av ∧ av ≤ 1073741824) (hsp : 0 < s ∧ s ≤ 1000000000) (hW : ∀ x ∈ W, wi x 10000 = true) (n : Nat) (hn : n < 20) (g : Nat → Int) (hg : ∀ k, k < n → 0 ≤ g k ∧ g k < W.length) :
  PureCall Tryz.prog 251 [.os 0, .int .i64 n, .fn (.func 213) [] [.rp 2 [.int .i64 av], .rp 2 [.sl 2 1 W.length (fl eInt W)], .rp 2 [.int .i64 s]]] [.row 3 3 1 n (eR g)] ⟨.tup [], [.row 0 3 1 n (eR (insN (shR av s W) g n))], []⟩ := by
 refine pure_write mix Tryz.func251 fits251 (.inr fun i _ c hc => by simp [eR] at hc; subst hc; rfl) ?_
 conv => whnf
 refine ⟨?_, ?_⟩
 ·exact g0
 refine LSem.loop (n := 63) mix (α := Nat) (fun i => True)
  (fun i => [(0, .os 0), (1, .int .i64 n), (2, .fn (.func 213) [] [.rp 2 [.int .i64 av], .rp 2 [.sl 2 1 W.length (fl eInt W)], .rp 2 [.int .i64 s]]), (6, .int .i64 20), (7, .int .i64 0), (8, .int .i64 20)])
  (fun i => [(0, .row 3 3 1 n (eR g))]) (fun i => 0) 0 trivial ?_ ?_
 ·refine ⟨rfl, rfl, ?_, ?_⟩
  all_goals repeat' (first | exact True.intro | refine leF_cons rfl ?_ ?_ | refine leS_cons rfl ?_ ?_ | (show PLe _ _ _ _; conv => whnf) | (show SLe _ _ _ _; conv => whnf) | (show PLeL _ _ _ _; conv => whnf) | apply And.intro | rfl | exact Nat.le_refl _ | exact fun _ _ => rfl | exact rowEq0 _ _)
 intro i _
 conv => whnf
 refine ⟨?_, fun hc => ?_, fun hc => ?_⟩
 ·exact g0
 ·simp only [bp] at hc
  omega
 conv => whnf
 refine ⟨_, fun _ => call297s av s W hWl hav hsp hW n (by omega) g hg, ?_⟩
 conv => whnf
 refine ⟨?_, ?_⟩
 ·exact g0
 refine LSem.loop (n := 63) mix (α := Nat) (fun i => True)
  (fun i => [(0, .os 0), (1, .int .i64 n), (6, .int .i64 20)])
  (fun i => [(0, .row 3 3 1 n (eR (insN (shR av s W) g n)))]) (fun i => 0) 0 trivial ?_ ?_
 ·refine ⟨rfl, rfl, ?_, ?_⟩
  all_goals repeat' (first | exact True.intro | refine leF_cons rfl ?_ ?_ | refine leS_cons rfl ?_ ?_ | (show PLe _ _ _ _; conv => whnf) | (show SLe _ _ _ _; conv => whnf) | (show PLeL _ _ _ _; conv => whnf) | apply And.intro | rfl | exact Nat.le_refl _ | exact fun _ _ => rfl | exact rowEq0 _ _)
 intro i _
 conv => whnf
 refine ⟨?_, fun hc => ?_, fun hc => ?_⟩
 ·exact g0
 ·simp only [bp] at hc
  omega
 conv => whnf
 exact ⟨trivial, rfl, rfl, rfl, rfl, fun _ _ => rfl⟩
theorem call195s (av s : Int) (W : List Int) (hWl : W.length ≤ 1000) (hav : 0 ≤ av ∧ av ≤ 1073741824) (hsp : 0 < s ∧ s ≤ 1000000000) (hW : ∀ x ∈ W, wi x 10000 = true) (n : Nat) (hn : n < 20) (g : Nat → Int) (hg : ∀ k, k < n → 0 ≤ g k ∧ g k < W.length) :
  PureCall Tryz.prog 195 [.os 0, .fn (.func 213) [] [.rp 2 [.int .i64 av], .rp 2 [.sl 2 1 W.length (fl eInt W)], .rp 2 [.int .i64 s]]] [.row 3 3 1 n (eR g)] ⟨.tup [], [.row 0 3 1 n (eR (insN (shR av s W) g n))], []⟩ := by
 refine pure_write mix Tryz.func195 fits195 (.inr fun i _ c hc => by simp [eR] at hc; subst hc; rfl) ?_
 conv => whnf
 refine ⟨_, fun _ => call251s av s W hWl hav hsp hW n hn g hg, ?_⟩
 conv => whnf
 exact ⟨g0 (P := _), rfl, rfl, rfl, rfl, fun _ _ => rfl⟩
theorem bumpN_le {o g : Nat → Int} {B : Int} (ho : ∀ k, o k ≤ B) : ∀ (j : Nat) k, bumpN o g j k ≤ B + j
 | 0, k => by simpa [bumpN] using ho k
 | j + 1, k => by
   have := bumpN_le (g := g) ho j k
   unfold bumpN bump
   split <;> omega
theorem eR_push (g : Nat → Int) (i : Nat) : RowEq (i + 1) (appF i (eR g) (fun k => [[PV.int .i64 (g i)]].getD k [])) (eR g) := fun k hk => by
 unfold appF
 by_cases h : k < i
 ·rw [if_pos h]
 ·rw [if_neg h]
  have : k = i := by omega
  subst this
  simp [eR]
set_option maxRecDepth 100000 in
set_option maxHeartbeats 8000000 in
theorem call168 (av : Int) (W : List Int) (hWl : W.length ≤ 1000) (h20 : W.length < 20) (hav : 0 ≤ av ∧ av ≤ 1073741824) (hW : ∀ x ∈ W, wi x 10000 = true) (hs : 0 < sumL W) :
  PureCall Tryz.prog 168 [.int .i64 av, .sl 2 1 W.length (fl eInt W)] [] ⟨.tup [.sl 0 1 (shF av W).length (fl eInt (shF av W)), .int .i64 0], [], []⟩ := by
 have hsum : ∀ i, i ≤ W.length → 0 ≤ sumN (fun k => W.getD k default) i ∧ sumN (fun k => W.getD k default) i ≤ 10000 * i := fun i hi =>
  ⟨sumN_nn i fun k hk => (wt_rng hav hW (k := k) (by omega)).1.1, sumN_le i fun k hk => (wt_rng hav hW (k := k) (by omega)).1.2⟩
 have hsl := (hsum W.length (Nat.le_refl _)).2
 have hws : wi av 274877906944 = true := (wi_iff _ _).2 (by omega)
 refine pure_call mix Tryz.func168 fits168 rfl ?_
 conv => whnf
 refine ⟨_, fun _ => call56 av 274877906944, ?_⟩
 rw [hws]
 conv => whnf
 refine ⟨_, fun _ => call54i _ W (by omega) hW, ?_⟩
 conv => whnf
 refine ⟨?_, fun hc => (by cases hc), fun _ => ?_⟩
 ·exact g0
 conv => whnf
 refine ⟨?_, fun hc => ?_, fun _ => ?_⟩
 ·exact g0
 ·simp only [bp] at hc
  omega
 conv => whnf
 refine ⟨?_, ?_⟩
 ·exact g0
 refine LSem.loop (n := 91) mix (α := Nat) (fun i => i ≤ W.length)
  (fun i => [(2, .pt 32 0 0), (3, .pt 48 0 0), (7, .pt 112 0 0), (28, .sl 2 1 W.length (fl eInt W)), (29, .int .i64 W.length), (30, .int .i64 i)])
  (fun i => [(32, .box [.int .i64 av]), (48, .box [.sl 2 1 W.length (fl eInt W)]), (112, .box [.int .i64 (sumN (fun k => W.getD k default) i)])]) (fun i => W.length - i) 0 ?_ ?_ ?_
 ·exact Nat.zero_le _
 ·refine ⟨rfl, rfl, ?_, ?_⟩
  all_goals repeat' (first | exact True.intro | refine leF_cons rfl ?_ ?_ | refine leS_cons rfl ?_ ?_ | (show PLe _ _ _ _; conv => whnf) | (show SLe _ _ _ _; conv => whnf) | (show PLeL _ _ _ _; conv => whnf) | apply And.intro | rfl | exact Nat.le_refl _ | exact fun _ _ => rfl | exact rowEq0 _ _)
 ·intro i hi
  have e1 : ((i : Int)).toNat = i := by omega
  conv => whnf
  refine ⟨trivial, fun hc => ?_, fun hc => ?_⟩
  ·replace hc := of_decide_eq_true hc
   have hlt : i < W.length := by omega
   have h1 := hsum i (by omega)
   have h2 := (wt_rng hav hW hlt).1
   conv => whnf
   rw [e1]
   refine ⟨?_, i + 1, hlt, by omega, rfl, rfl, ?_, ?_⟩
   ·exact g0
   all_goals repeat' (first | exact True.intro | refine leF_cons rfl ?_ ?_ | refine leS_cons rfl ?_ ?_ | (show PLe _ _ _ _; conv => whnf) | (show SLe _ _ _ _; conv => whnf) | (show PLeL _ _ _ _; conv => whnf) | apply And.intro | rfl | exact Nat.le_refl _ | exact fun _ _ => rfl | exact rowEq0 _ _)
   all_goals first | omega | skip
  ·replace hc := of_decide_eq_false hc
   have : i = W.length := by omega
   subst this
   rw [show sumN (fun k => W.getD k default) W.length = sumL W from rfl]
   rw [show sumN (fun k => W.getD k default) W.length = sumL W from rfl] at hsl
   conv => whnf
   refine ⟨?_, fun hc => ?_, fun _ => ?_⟩
   ·exact g0
   ·simp only [bp] at hc
    omega
   conv => whnf
   refine ⟨?_, ?_⟩
   ·exact g0
   have hsp : 0 < sumL W ∧ sumL W ≤ 1000000000 := ⟨hs, by omega⟩
   have hQ : ∀ k, 0 ≤ shQ av (sumL W) W k ∧ shQ av (sumL W) W k ≤ 1073741824 * 10000 := fun k => by
    by_cases hk : k < W.length
    ·have h1 := (wt_rng hav hW hk).2
     exact ⟨Int.ediv_nonneg h1.1 (by omega), Int.le_trans (Int.ediv_le_self _ h1.1) h1.2⟩
    ·unfold shQ
     rw [show W.getD k default = 0 by rw [List.getD_eq_getElem?_getD, List.getElem?_eq_none (by omega)]; rfl]
     simp
   have hSQ : ∀ i, i ≤ W.length → 0 ≤ sumN (shQ av (sumL W) W) i ∧ sumN (shQ av (sumL W) W) i ≤ 1073741824 * 10000 * i := fun i hi =>
    ⟨sumN_nn i fun k _ => (hQ k).1, sumN_le i fun k _ => (hQ k).2⟩
   have hWn : ∀ k, 0 ≤ W.getD k default := fun k => by
    by_cases hk : k < W.length
    ·exact (wt_rng hav hW hk).1.1
    ·rw [List.getD_eq_getElem?_getD, List.getElem?_eq_none (by omega)]; exact Int.le_refl _
   have hL := shL_in (av := av) hs
   obtain ⟨m, hm⟩ : ∃ m : Nat, (m : Int) = shL av W := ⟨(shL av W).toNat, by omega⟩
   have hm2 : (shL av W).toNat = m := by omega
   have hml : m ≤ W.length := by omega
   refine LSem.adopt 11 1000000 3 1 1 rfl rfl ?_
   refine LSem.adopt 12 1000001 3 1 1 rfl rfl ?_
   refine LSem.loop (n := 91) mix (α := Nat) (fun i => i ≤ W.length)
    (fun i => [(2, .pt 32 0 0), (3, .pt 48 0 0), (7, .pt 112 0 0), (10, .int .i64 (av - sumN (shQ av (sumL W) W) i)), (11, .os 1000000), (12, .os 1000001), (46, .sl 2 1 W.length (fl eInt W)), (47, .int .i64 W.length), (48, .int .i64 i)])
    (fun i => [(32, .box [.int .i64 av]), (48, .box [.sl 2 1 W.length (fl eInt W)]), (112, .box [.int .i64 (sumL W)]), (1000000, .row 0 3 1 i (eR (shQ av (sumL W) W))), (1000001, .row 0 3 1 i (eR (fun k => (k : Int))))]) (fun i => W.length - i) 0 ?_ ?_ ?_
   ·exact Nat.zero_le _
   ·refine ⟨rfl, rfl, ?_, ?_⟩
    all_goals repeat' (first | exact True.intro | refine leF_cons rfl ?_ ?_ | refine leS_cons rfl ?_ ?_ | (show PLe _ _ _ _; conv => whnf) | (show SLe _ _ _ _; conv => whnf) | (show PLeL _ _ _ _; conv => whnf) | apply And.intro | rfl | exact Nat.le_refl _ | exact fun _ _ => rfl | exact rowEq0 _ _)
    all_goals first | (show av = av - 0; omega) | skip
   ·intro i hi2
    have e2 : ((i : Int)).toNat = i := by omega
    conv => whnf
    refine ⟨trivial, fun hc => ?_, fun hc => ?_⟩
    ·replace hc := of_decide_eq_true hc
     have hlt : i < W.length := by omega
     have h1 := wt_rng hav hW hlt
     have h2 := hQ i
     have h3 := hSQ i (by omega)
     have t1 : (av * W.getD i default).tdiv (sumL W) = shQ av (sumL W) W i := Int.tdiv_eq_ediv_of_nonneg h1.2.1
     conv => whnf
     rw [e2, t1]
     refine ⟨?_, ?_⟩
     ·exact g0
     refine LSem.cut (n := 91) mix (fl := [(2, .pt 32 0 0), (3, .pt 48 0 0), (7, .pt 112 0 0), (10, .int .i64 (av - sumN (shQ av (sumL W) W) i)), (11, .os 1000000), (12, .os 1000001), (13, .int .i64 i), (46, .sl 2 1 W.length (fl eInt W)), (47, .int .i64 W.length), (48, .int .i64 i)])
      (sl := [(32, .box [.int .i64 av]), (48, .box [.sl 2 1 W.length (fl eInt W)]), (112, .box [.int .i64 (sumL W)]), (1000000, .row 0 3 1 (i + 1) (eR (shQ av (sumL W) W))), (1000001, .row 0 3 1 (i + 1) (eR (fun k => (k : Int))))]) ?_ ?_
     ·refine ⟨rfl, rfl, ?_, ?_⟩
      all_goals repeat' (first | exact True.intro | refine leF_cons rfl ?_ ?_ | refine leS_cons rfl ?_ ?_ | (show PLe _ _ _ _; conv => whnf) | (show SLe _ _ _ _; conv => whnf) | (show PLeL _ _ _ _; conv => whnf) | apply And.intro | rfl | exact Nat.le_refl _ | exact fun _ _ => rfl | exact rowEq0 _ _)
      all_goals first | exact eR_push (shQ av (sumL W) W) i | exact eR_push (fun k => (k : Int)) i | skip
     have h4 : sumN (shQ av (sumL W) W) (i + 1) = sumN (shQ av (sumL W) W) i + shQ av (sumL W) W i := rfl
     conv => whnf
     rw [e2]
     refine ⟨?_, i + 1, hlt, by omega, rfl, rfl, ?_, ?_⟩
     ·exact g0
     all_goals repeat' (first | exact True.intro | refine leF_cons rfl ?_ ?_ | refine leS_cons rfl ?_ ?_ | (show PLe _ _ _ _; conv => whnf) | (show SLe _ _ _ _; conv => whnf) | (show PLeL _ _ _ _; conv => whnf) | apply And.intro | rfl | exact Nat.le_refl _ | exact fun _ _ => rfl | exact rowEq0 _ _)
     all_goals first | (rw [h4]; omega) | omega | skip
    ·replace hc := of_decide_eq_false hc
     have : i = W.length := by omega
     subst this
     rw [show av - sumN (shQ av (sumL W) W) W.length = shL av W from rfl, ← hm]
     conv => whnf
     refine ⟨_, fun _ => call195s av (sumL W) W hWl hav hsp hW W.length h20 (fun k => (k : Int)) (fun k hk => by omega), ?_⟩
     rw [show insN (shR av (sumL W) W) (fun k => (k : Int)) W.length = shO av W from rfl]
     have hO := shO_in av W
     have hF : shF av W = (List.range W.length).map (bumpN (shQ av (sumL W) W) (shO av W) m) := by unfold shF; rw [hm2]
     have hB := fun j k => bumpN_nn (g := shO av W) (fun k => (hQ k).1) j k
     have hB2 := fun j k => bumpN_le (g := shO av W) (fun k => (hQ k).2) j k
     rw [hF]
     generalize shO av W = O at hO hB hB2 ⊢
     generalize shQ av (sumL W) W = Q at hB hB2 ⊢
     conv => whnf
     refine ⟨?_, ?_⟩
     ·exact g0
     refine LSem.loop (n := 91) mix (α := Nat) (fun j => j ≤ m)
      (fun j => [(11, .os 1000000), (77, .vw true 1000001 0 m), (78, .int .i64 m), (79, .int .i64 j)])
      (fun j => [(1000000, .row 0 3 1 W.length (eR (bumpN Q O j))), (1000001, .row 0 3 1 W.length (eR O))]) (fun j => m - j) 0 ?_ ?_ ?_
     ·exact Nat.zero_le _
     ·refine ⟨rfl, rfl, ?_, ?_⟩
      all_goals repeat' (first | exact True.intro | refine leF_cons rfl ?_ ?_ | refine leS_cons rfl ?_ ?_ | (show PLe _ _ _ _; conv => whnf) | (show SLe _ _ _ _; conv => whnf) | (show PLeL _ _ _ _; conv => whnf) | apply And.intro | rfl | exact Nat.le_refl _ | exact fun _ _ => rfl | exact rowEq0 _ _)
     ·intro j hj
      have e3 : ((j : Int)).toNat = j := by omega
      conv => whnf
      refine ⟨trivial, fun hc => ?_, fun hc => ?_⟩
      ·replace hc := of_decide_eq_true hc
       have hlt : j < m := by omega
       have o1 := hO j (by omega)
       have b1 := hB j (O j).toNat
       have b2 := hB2 j (O j).toNat
       conv => whnf
       rw [e3, Nat.zero_add]
       refine ⟨?_, j + 1, hlt, by omega, rfl, rfl, ?_, ?_⟩
       ·exact g0
       all_goals repeat' (first | exact True.intro | refine leF_cons rfl ?_ ?_ | refine leS_cons rfl ?_ ?_ | (show PLe _ _ _ _; conv => whnf) | (show SLe _ _ _ _; conv => whnf) | (show PLeL _ _ _ _; conv => whnf) | apply And.intro | rfl | exact Nat.le_refl _ | exact fun _ _ => rfl | exact rowEq0 _ _)
       all_goals first
        | omega
        | (intro k hk
           show (if k = (O j).toNat then setAt (eR (bumpN Q O j) (O j).toNat) 0 [PV.int .i64 (bumpN Q O j (O j).toNat + 1)] else eR (bumpN Q O j) k) = eR (bump (bumpN Q O j) (O j).toNat) k
           by_cases h : k = (O j).toNat
           ·subst h
            rw [if_pos rfl]
            simp [eR, bump, setAt]
           ·rw [if_neg h]
            simp [eR, bump, h])
        | skip
      ·replace hc := of_decide_eq_false hc
       have : j = m := by omega
       subst this
       have hr : RowEq W.length (eR (bumpN Q O j)) (fl eInt ((List.range W.length).map (bumpN Q O j))) := fun k hk => by
        unfold fl
        rw [getD_map_range hk]
        rfl
       conv => whnf
       refine ⟨?_, [], ?_⟩
       ·exact g0
       conv => whnf
       refine ⟨rfl, ?_, trivial, trivial⟩
       all_goals repeat' (first | exact True.intro | refine leF_cons rfl ?_ ?_ | refine leS_cons rfl ?_ ?_ | (show PLe _ _ _ _; conv => whnf) | (show SLe _ _ _ _; conv => whnf) | (show PLeL _ _ _ _; conv => whnf) | apply And.intro | rfl | exact Nat.le_refl _ | exact fun _ _ => rfl | exact rowEq0 _ _)
       all_goals first | exact hr | (simp; done) | skip
end Pv
end Go.Proofs.YtdcgnfkkklbckaaGreatDoor
/- TOP, THE WALKS: what each right gets. -/
set_option linter.unusedSimpArgs false
set_option linter.unusedVariables false
namespace Go.Proofs.YtdcgnfkkklbckaaGreatDoor
namespace Pv
def c110L2 : C := (.seq (.seq (.reg [⟨some 31, 496, none, .mv (.t 10)⟩,⟨some 32, 512, none, .mv (.t 8)⟩,⟨some 33, 528, none, .len (.t 32)⟩,⟨some 34, 544, none, .bi false .lss (.t 31) (.t 33)⟩,⟨some 35, 560, none, .mv (.t 34)⟩,⟨some 36, 576, (some (35, true)), .mv (.t 0)⟩,⟨some 37, 592, (some (35, true)), .mv (.t 8)⟩,⟨some 38, 608, (some (35, true)), .mv (.t 10)⟩,⟨some 39, 624, (some (35, true)), .ia 1 (.t 37) (.t 38)⟩,⟨some 40, 640, (some (35, true)), .ld 1 false (.t 39)⟩,⟨some 41, 656, (some (35, true)), .ia 4 (.t 36) (.t 40)⟩,⟨some 42, 672, (some (35, true)), .fa 0 (.t 41)⟩,⟨some 43, 688, (some (35, true)), .ld 1 false (.t 42)⟩,⟨some 44, 704, (some (35, true)), .mv (.t 9)⟩,⟨some 45, 720, (some (35, true)), .bi false .eql (.t 43) (.t 44)⟩,⟨some 46, 736, none, .pick (.t 35) (.t 45) (.c (.bool false))⟩])
 (.cond (.t 46) .skip (.exit 2)))
 (.block 3 (.seq (.reg [⟨some 47, 752, none, .mv (.t 12)⟩,⟨some 48, 768, none, .mv (.t 0)⟩,⟨some 49, 784, none, .mv (.t 8)⟩,⟨some 50, 800, none, .mv (.t 10)⟩,⟨some 51, 816, none, .ia 1 (.t 49) (.t 50)⟩,⟨some 52, 832, none, .ld 1 false (.t 51)⟩,⟨some 53, 848, none, .ia 4 (.t 48) (.t 52)⟩,⟨some 54, 864, none, .fa 1 (.t 53)⟩,⟨some 55, 880, none, .ld 1 false (.t 54)⟩,⟨some 56, 896, none, .bs 3 1 [(.t 55)]⟩,⟨some 57, 912, none, .app 3 1 8 (.t 47) (.t 56)⟩,⟨some 12, 192, none, .mv (.t 57)⟩])
 (.seq (.reg [⟨some 58, 928, none, .mv (.t 11)⟩,⟨some 59, 944, none, .mv (.t 0)⟩,⟨some 60, 960, none, .mv (.t 8)⟩,⟨some 61, 976, none, .mv (.t 10)⟩,⟨some 62, 992, none, .ia 1 (.t 60) (.t 61)⟩,⟨some 63, 1008, none, .ld 1 false (.t 62)⟩,⟨some 64, 1024, none, .ia 4 (.t 59) (.t 63)⟩,⟨some 65, 1040, none, .fa 1 (.t 64)⟩,⟨some 66, 1056, none, .ld 1 false (.t 65)⟩,⟨some 67, 1072, none, .bi false .add (.t 58) (.t 66)⟩,⟨some 11, 176, none, .mv (.t 67)⟩])
 (.reg [⟨some 68, 1088, none, .mv (.t 10)⟩,⟨some 69, 1104, none, .bi false .add (.t 68) (.c (.int .i64 1))⟩,⟨some 10, 160, none, .mv (.t 69)⟩])))))
def c110L3 : C := (.seq (.reg [⟨some 83, 1328, none, .bi false .lss (.t 82) (.t 81)⟩])
 (.seq (.cond (.t 83) .skip (.exit 4))
 (.seq (.block 5 (.seq (.reg [⟨some 84, 1344, none, .mv (.t 82)⟩,⟨some 85, 1360, none, .ia 1 (.t 80) (.t 82)⟩,⟨some 86, 1376, none, .ld 1 false (.t 85)⟩,⟨some 13, 208, none, .mv (.t 84)⟩,⟨some 14, 224, none, .mv (.t 86)⟩])
 (.reg [⟨some 87, 1392, none, .mv (.t 7)⟩,⟨some 88, 1408, none, .mv (.t 8)⟩,⟨some 89, 1424, none, .mv (.t 13)⟩,⟨some 90, 1440, none, .ia 1 (.t 88) (.t 89)⟩,⟨some 91, 1456, none, .ld 1 false (.t 90)⟩,⟨some 92, 1472, none, .mv (.t 14)⟩,⟨some 93, 1488, none, .ia 1 (.t 87) (.t 91)⟩,⟨none, 0, none, .st 1 (.t 93) (.t 92)⟩])))
 (.reg [⟨some 94, 1504, none, .bi false .add (.t 82) (.c (.int .i64 1))⟩,⟨some 82, 1312, none, .mv (.t 94)⟩]))))
def c110L1 : C := (.seq (.seq (.reg [⟨some 21, 336, none, .mv (.t 8)⟩,⟨some 22, 352, none, .len (.t 21)⟩,⟨some 23, 368, none, .bi false .gtr (.t 22) (.c (.int .i64 0))⟩])
 (.cond (.t 23) .skip (.exit 0)))
 (.block 1 (.seq (.reg [⟨some 24, 384, none, .mv (.t 0)⟩,⟨some 25, 400, none, .mv (.t 8)⟩,⟨some 26, 416, none, .ia 1 (.t 25) (.c (.int .i64 0))⟩,⟨some 27, 432, none, .ld 1 false (.t 26)⟩,⟨some 28, 448, none, .ia 4 (.t 24) (.t 27)⟩,⟨some 29, 464, none, .fa 0 (.t 28)⟩,⟨some 30, 480, none, .ld 1 false (.t 29)⟩,⟨some 9, 144, none, .mv (.t 30)⟩])
 (.seq (.reg [⟨some 10, 160, none, .mv (.c (.int .i64 0))⟩,⟨some 11, 176, none, .mv (.c (.int .i64 0))⟩])
 (.seq (.reg [⟨some 12, 192, none, .mv (.c (.nil 1))⟩])
 (.seq (.block 2 (.loop c110L2))
 (.cut (.seq (.seq (.reg [⟨some 70, 1120, none, .mv (.t 11)⟩,⟨some 71, 1136, none, .mv (.t 1)⟩,⟨some 72, 1152, none, .bi false .gtr (.t 70) (.t 71)⟩])
 (.cond (.t 72) (.seq (.reg [⟨some 74, 1184, none, .mv (.t 1)⟩,⟨some 75, 1200, none, .mv (.t 12)⟩,⟨some 76, 1216, none, .call (.c (.fn (.func 168) [] [])) [(.t 74), (.t 75)]⟩,⟨some 73, 1168, none, .mv (.t 76)⟩,⟨some 77, 1232, none, .ex (.t 73) 0⟩,⟨some 78, 1248, none, .ex (.t 73) 1⟩,⟨some 12, 192, none, .mv (.t 77)⟩])
 (.reg [⟨some 79, 1264, none, .mv (.t 1)⟩,⟨some 11, 176, none, .mv (.t 79)⟩])) .skip))
 (.seq (.seq (.reg [⟨some 80, 1280, none, .mv (.t 12)⟩,⟨some 81, 1296, none, .len (.t 80)⟩,⟨some 82, 1312, none, .mv (.c (.int .i64 0))⟩])
 (.block 4 (.loop c110L3)))
 (.seq (.reg [⟨some 95, 1520, none, .mv (.t 1)⟩,⟨some 96, 1536, none, .mv (.t 11)⟩,⟨some 97, 1552, none, .bi false .sub (.t 95) (.t 96)⟩,⟨some 1, 16, none, .mv (.t 97)⟩])
 (.reg [⟨some 98, 1568, none, .mv (.t 8)⟩,⟨some 99, 1584, none, .mv (.t 10)⟩,⟨some 100, 1600, none, .slc 1 (.t 98) (some (.t 99)) none⟩,⟨some 8, 128, none, .mv (.t 100)⟩])))))))))))
def c110 : C := (.seq (.reg [⟨some 6, 96, none, .mv (.c (.nil 1))⟩])
 (.seq (.reg [⟨some 15, 240, none, .mv (.t 0)⟩,⟨some 16, 256, none, .len (.t 15)⟩,⟨some 17, 272, none, .mks 3 1 8 [(.int .i64 0)] (.t 16) (.t 16)⟩,⟨some 7, 112, none, .mv (.t 17)⟩])
 (.seq (.reg [⟨some 18, 288, none, .mv (.t 0)⟩,⟨some 19, 304, none, .mv (.t 2)⟩,⟨some 20, 320, none, .call (.c (.fn (.func 167) [] [])) [(.t 18), (.t 19)]⟩,⟨some 8, 128, none, .mv (.t 20)⟩])
 (.seq (.block 0 (.loop c110L1))
 (.seq (.reg [⟨some 101, 1616, none, .mv (.t 7)⟩,⟨some 6, 96, none, .mv (.t 101)⟩])
 .ret)))))
theorem fits110 : fits Tryz.prog false Tryz.f110 3 102 [(6, none)] = some c110.er := by kernel_rfl
theorem runN_lt {l : List Rt} {date : Int} : ∀ (O : List Int) (n : Nat), n ≤ runN l date O → ((n < O.length ∧ (rtA l (O.getD n default)).d = date) ↔ n < runN l date O)
 | [], n, h => by simp [runN]
 | i :: O, n, h => by
   unfold runN at h ⊢
   by_cases hd : (rtA l i).d = date
   ·rw [if_pos hd] at h ⊢
    match n, h with
    | 0, _ => exact ⟨fun _ => by omega, fun _ => ⟨by simp, hd⟩⟩
    | n + 1, h =>
      have ih := runN_lt (l := l) (date := date) O n (by omega)
      rw [List.length_cons, show (i :: O).getD (n + 1) default = O.getD n default from rfl]
      constructor
      ·rintro ⟨h1, h2⟩
       have := ih.1 ⟨by omega, h2⟩
       omega
      ·intro h1
       have := ih.2 (by omega)
       exact ⟨by omega, this.2⟩
   ·rw [if_neg hd] at h ⊢
    have : n = 0 := by omega
    subst this
    exact ⟨fun h => absurd h.2 hd, fun h => by omega⟩
theorem flwL_succ (l : List Rt) (O : List Int) (n : Nat) : flwL l O (n + 1) = flwL l O n ++ [(rtA l (O.getD n default)).w] := by
 unfold flwL; rw [List.range_succ, List.map_append]; rfl
theorem flwL_get (l : List Rt) (O : List Int) {n k : Nat} (h : k < n) : (flwL l O n).getD k default = (rtA l (O.getD k default)).w := by
 unfold flwL; rw [getD_map_range h]
theorem sumL_flw (l : List Rt) (O : List Int) (n : Nat) : sumL (flwL l O n) = sumN (fun k => (rtA l (O.getD k default)).w) n := by
 unfold sumL
 rw [flwL_len]
 exact sumN_cong _ fun k hk => flwL_get l O hk
theorem getD_drop_ (O : List Int) (r i : Nat) : (O.drop r).getD i default = O.getD (r + i) default := by
 rw [List.getD_eq_getElem?_getD, List.getElem?_drop, List.getD_eq_getElem?_getD]
theorem putF_row (o : Nat → Int) (x : Nat) (v : Int) (n : Nat) : RowEq n (fun k => if k = x then setAt (eR o x) 0 [PV.int .i64 v] else eR o k) (eR (putF o x v)) := fun k _ => by
 by_cases h : k = x
 ·subst h
  dsimp only
  rw [if_pos rfl]
  simp [eR, putF, setAt]
 ·dsimp only
  rw [if_neg h]
  simp [eR, putF, h]
theorem grp_len_ (l : List Rt) (a : Int) (O : List Int) (n : Nat) : (grp l a O n).length = n := by
 unfold grp
 split
 ·rw [shF_len, flwL_len]
 ·rw [flwL_len]
set_option maxRecDepth 100000 in
set_option maxHeartbeats 8000000 in
theorem call110 (τ : Nat) (l : List Rt) (hl : l.length ≤ 7) (hv : ∀ i, i < l.length → RtV (l.getD i default)) (av day : Int) (hav : 0 ≤ av ∧ av ≤ 1073741824) :
  PureCall Tryz.prog 110 [.sl τ 4 l.length (fl eRt l), .int .i64 av, .int .i64 day] [] ⟨.sl 0 1 l.length (fl eInt ((List.range l.length).map (allotF l av day))), [], []⟩ := by
 have hw : ∀ x : Int, (0 ≤ x ∧ x < l.length) → 0 ≤ (rtA l x).w ∧ (rtA l x).w ≤ 10000 := fun x hx => (wi_iff _ _).1 (hv x.toNat (by omega)).w
 obtain ⟨T, hT⟩ : ∃ T, T = allotF l av day := ⟨_, rfl⟩
 rw [← hT]
 unfold allotF at hT
 refine pure_call mix Tryz.func110 fits110 rfl ?_
 conv => whnf
 refine ⟨_, fun _ => call167 _ l hl day, ?_⟩
 have hO := ordR_in l day
 have hOl := ordR_len l day
 have hOl2 := onL_len (l := l) (day := day) l.length
 generalize ordR l day = O0 at hO hOl hT ⊢
 conv => whnf
 have hml : l.length ≤ maxLen := maxLen_ge (by omega)
 refine ⟨?_, ?_⟩
 ·(try conv => whnf)
  (repeat' (first | exact hml | exact True.intro | exact fun _ h => h | refine inR64_of ?_ ?_ | apply And.intro)) <;> first | omega | decide | (dsimp only; omega)
 refine LSem.loop (n := 102) mix (α := Nat × (Nat → Int) × Int × List Int) (fun s => s.2.2.2.length ≤ s.1 ∧ T = alF l s.1 s.2.1 s.2.2.1 s.2.2.2 ∧ (0 ≤ s.2.2.1 ∧ s.2.2.1 ≤ av) ∧ (∀ k, k < s.2.2.2.length → 0 ≤ s.2.2.2.getD k default ∧ s.2.2.2.getD k default < l.length) ∧ s.2.2.2.length ≤ 7)
  (fun s => [(0, .sl τ 4 l.length (fl eRt l)), (1, .int .i64 s.2.2.1), (7, .os 272), (8, .sl 0 1 s.2.2.2.length (fl eInt s.2.2.2))])
  (fun s => [(272, .row 0 3 1 l.length (eR s.2.1))]) (fun s => s.1) (O0.length, (fun _ => 0), av, O0) ?_ ?_ ?_
 ·exact ⟨Nat.le_refl _, hT, ⟨hav.1, Int.le_refl _⟩, hO, by dsimp only; omega⟩
 ·refine ⟨rfl, rfl, ?_, ?_⟩
  all_goals repeat' (first | exact True.intro | refine leF_cons rfl ?_ ?_ | refine leS_cons rfl ?_ ?_ | (show PLe _ _ _ _; conv => whnf) | (show SLe _ _ _ _; conv => whnf) | (show PLeL _ _ _ _; conv => whnf) | apply And.intro | rfl | exact Nat.le_refl _ | exact fun _ _ => rfl | exact rowEq0 _ _)
 ·rintro ⟨f, o, a, O⟩ ⟨i1, i2, i3, i4, i5⟩
  dsimp only at i1 i2 i3 i4 i5 ⊢
  conv => whnf
  refine ⟨trivial, fun hc => ?_, fun hc => ?_⟩
  ·replace hc := of_decide_eq_true hc
   have hpos : 0 < O.length := by omega
   obtain ⟨f, rfl⟩ : ∃ f', f = f' + 1 := ⟨f - 1, by omega⟩
   have hO0 := i4 0 hpos
   conv => whnf
   refine ⟨⟨⟨trivial, Int.le_refl _, hpos⟩, hO0.1, (show (O.getD 0 default).toNat < l.length by omega)⟩, ?_⟩
   have hrle : runO l O ≤ O.length := runN_le _ _ _
   have hrpos : 0 < runO l O := by
    obtain ⟨i0, O', rfl⟩ : ∃ i0 O', O = i0 :: O' := by
     cases O with
     | nil => simp at hpos
     | cons i0 O' => exact ⟨i0, O', rfl⟩
    show 0 < (if (rtA l i0).d = (rtA l i0).d then _ + 1 else 0)
    rw [if_pos rfl]; omega
   have hrun : ∀ n, n ≤ runO l O → ((n < O.length ∧ (rtA l (O.getD n default)).d = (rtA l (O.getD 0 default)).d) ↔ n < runO l O) := fun n hn => runN_lt O n hn
   have hne : O ≠ [] := fun h => by rw [h] at hpos; simp at hpos
   have hT2 : T = alF l f (putN o O (grp l a O (runO l O)) (runO l O)) (a - min (sumL (flwL l O (runO l O))) a) (O.drop (runO l O)) := by
    rw [i2]; exact if_neg hne
   have hF := flwL_len l O
   have hfw : ∀ n, n ≤ O.length → ∀ x ∈ flwL l O n, wi x 10000 = true := fun n hn x hx => by
    obtain ⟨k, hk, rfl⟩ := mem_getD hx
    rw [hF] at hk
    rw [flwL_get l O hk]
    exact (wi_iff _ _).2 (hw _ (i4 k (by omega)))
   have hsum : ∀ n, n ≤ O.length → 0 ≤ sumL (flwL l O n) ∧ sumL (flwL l O n) ≤ 10000 * n := fun n hn => by
    rw [sumL_flw]
    exact ⟨sumN_nn n fun k hk => (hw _ (i4 k (by omega))).1, sumN_le n fun k hk => (hw _ (i4 k (by omega))).2⟩
   generalize runO l O = R at hrle hrpos hrun hT2 ⊢
   obtain ⟨D, hD⟩ : ∃ D, D = (rtA l (O.getD 0 default)).d := ⟨_, rfl⟩
   rw [← hD] at hrun
   refine LSem.adopt 12 1000001 3 1 1 rfl rfl ?_
   refine LSem.loop (n := 102) mix (α := Nat) (fun n => n ≤ R)
    (fun n => [(0, .sl τ 4 l.length (fl eRt l)), (1, .int .i64 a), (7, .os 272), (8, .sl 0 1 O.length (fl eInt O)), (9, .int .i64 D), (10, .int .i64 n), (11, .int .i64 (sumL (flwL l O n))), (12, .os 1000001)])
    (fun n => [(272, .row 0 3 1 l.length (eR o)), (1000001, .row 0 3 1 (flwL l O n).length (fl eInt (flwL l O n)))]) (fun n => R - n) 0 ?_ ?_ ?_
   ·exact Nat.zero_le _
   ·refine ⟨rfl, rfl, ?_, ?_⟩
    all_goals repeat' (first | exact True.intro | refine leF_cons rfl ?_ ?_ | refine leS_cons rfl ?_ ?_ | (show PLe _ _ _ _; conv => whnf) | (show SLe _ _ _ _; conv => whnf) | (show PLeL _ _ _ _; conv => whnf) | apply And.intro | rfl | exact Nat.le_refl _ | exact fun _ _ => rfl | exact rowEq0 _ _)
    all_goals first | exact hD.symm | skip
   ·intro n hn
    have e1 : ((n : Int)).toNat = n := by omega
    have hr := hrun n hn
    have s1 := hsum n (by omega)
    conv => whnf
    rw [e1]
    refine ⟨?_, fun hc2 => ?_, fun hc2 => ?_⟩
    ·repeat' (apply And.intro)
     all_goals first
      | exact trivial
      | exact fun _ h => h
      | (intro h
         have h' : n < O.length := by simpa using h
         have hi := i4 n h'
         first
          | exact ⟨by omega, h'⟩
          | exact ⟨hi.1, by omega⟩
          | simpa using h')
    ·simp only [bp] at hc2
     have hlt : n < R := hr.1 ⟨by omega, hc2.2⟩
     have hi := i4 n (by omega)
     have w1 := hw _ hi
     have s2 := hsum (n + 1) (by omega)
     have hs2 : sumL (flwL l O (n + 1)) = sumL (flwL l O n) + (rtA l (O.getD n default)).w := by rw [sumL_flw, sumL_flw]; rfl
     have hfs := flwL_succ l O n
     have q := fl_push eInt (flwL l O n) (rtA l (O.getD n default)).w
     have hFn := hF n
     conv => whnf
     rw [e1]
     refine ⟨?_, n + 1, hlt, by omega, rfl, rfl, ?_, ?_⟩
     ·(try conv => whnf)
      (repeat' (first | exact True.intro | exact fun _ h => h | refine inR64_of ?_ ?_ | apply And.intro | refine maxLen_ge ?_))
      all_goals first
       | omega
       | decide
       | (show (O.getD n default).toNat < l.length; omega)
       | (show (-9223372036854775808 : Int) ≤ sumL (flwL l O n) + (rtA l (O.getD n default)).w; omega)
       | (show sumL (flwL l O n) + (rtA l (O.getD n default)).w ≤ (9223372036854775807 : Int); omega)
       | (dsimp only [List.length_cons, List.length_nil]; omega)
       | skip
     all_goals repeat' (first | exact True.intro | refine leF_cons rfl ?_ ?_ | refine leS_cons rfl ?_ ?_ | (show PLe _ _ _ _; conv => whnf) | (show SLe _ _ _ _; conv => whnf) | (show PLeL _ _ _ _; conv => whnf) | apply And.intro | rfl | exact Nat.le_refl _ | exact fun _ _ => rfl | exact rowEq0 _ _)
     all_goals first
      | (rw [hfs]; exact q)
      | (rw [hfs]; simp; done)
      | exact hs2.symm
      | omega
      | skip
    ·simp only [bp] at hc2
     have : n = R := by
      rcases Nat.lt_or_ge n R with h | h
      ·have := hr.2 h
       rcases hc2 with h3 | h3
       ·exact absurd this.2 h3.2
       ·omega
      ·omega
     subst this
     clear hr hc2 hrun e1
     conv => whnf
     refine ⟨trivial, ?_⟩
     have hgo := grp_len_ l a O n
     refine LSem.meet (n := 102) mix (α := Unit) (fun _ => True)
      (fun _ => [(0, .sl τ 4 l.length (fl eRt l)), (1, .int .i64 a), (7, .os 272), (8, .sl 0 1 O.length (fl eInt O)), (10, .int .i64 n), (11, .int .i64 (min (sumL (flwL l O n)) a)), (12, .sl 2 1 (grp l a O n).length (fl eInt (grp l a O n)))])
      (fun _ => [(272, .row 0 3 1 l.length (eR o))]) ?_ ?_
     ·conv => whnf
      refine ⟨trivial, fun hc => ?_, fun hc => ?_⟩
      ·have hgt : sumL (flwL l O n) > a := of_decide_eq_true hc
       have eg : grp l a O n = shF a (flwL l O n) := if_pos hgt
       have em : min (sumL (flwL l O n)) a = a := by omega
       rw [eg, em]
       conv => whnf
       refine ⟨_, fun _ => call168 a (flwL l O n) (by rw [hF]; omega) (by rw [hF]; omega) (by omega) (hfw n hrle) (by omega), ?_⟩
       conv => whnf
       refine ⟨?_, (), trivial, rfl, rfl, ?_, ?_⟩
       ·exact g0
       all_goals repeat' (first | exact True.intro | refine leF_cons rfl ?_ ?_ | refine leS_cons rfl ?_ ?_ | (show PLe _ _ _ _; conv => whnf) | (show SLe _ _ _ _; conv => whnf) | (show PLeL _ _ _ _; conv => whnf) | apply And.intro | rfl | exact Nat.le_refl _ | exact fun _ _ => rfl | exact rowEq0 _ _)
       all_goals exact Nat.zero_le _
      ·have hgt : ¬ sumL (flwL l O n) > a := of_decide_eq_false hc
       have eg : grp l a O n = flwL l O n := if_neg hgt
       have em : min (sumL (flwL l O n)) a = sumL (flwL l O n) := by omega
       rw [eg, em]
       conv => whnf
       refine ⟨?_, (), trivial, rfl, rfl, ?_, ?_⟩
       ·exact g0
       all_goals repeat' (first | exact True.intro | refine leF_cons rfl ?_ ?_ | refine leS_cons rfl ?_ ?_ | (show PLe _ _ _ _; conv => whnf) | (show SLe _ _ _ _; conv => whnf) | (show PLeL _ _ _ _; conv => whnf) | apply And.intro | rfl | exact Nat.le_refl _ | exact fun _ _ => rfl | exact rowEq0 _ _)
       all_goals exact Nat.zero_le _
     ·intro x hx
      have hm : 0 ≤ min (sumL (flwL l O n)) a ∧ min (sumL (flwL l O n)) a ≤ a := by have := hsum n hrle; omega
      generalize min (sumL (flwL l O n)) a = need at hm hT2 ⊢
      generalize grp l a O n = F at hgo hT2 ⊢
      conv => whnf
      refine ⟨trivial, ?_⟩
      refine LSem.loop (n := 102) mix (α := Nat) (fun j => j ≤ F.length)
       (fun j => [(0, .sl τ 4 l.length (fl eRt l)), (1, .int .i64 a), (7, .os 272), (8, .sl 0 1 O.length (fl eInt O)), (10, .int .i64 n), (11, .int .i64 need), (80, .sl 2 1 F.length (fl eInt F)), (81, .int .i64 F.length), (82, .int .i64 j)])
       (fun j => [(272, .row 0 3 1 l.length (eR (putN o O F j)))]) (fun j => F.length - j) 0 ?_ ?_ ?_
      ·exact Nat.zero_le _
      ·refine ⟨rfl, rfl, ?_, ?_⟩
       all_goals repeat' (first | exact True.intro | refine leF_cons rfl ?_ ?_ | refine leS_cons rfl ?_ ?_ | (show PLe _ _ _ _; conv => whnf) | (show SLe _ _ _ _; conv => whnf) | (show PLeL _ _ _ _; conv => whnf) | apply And.intro | rfl | exact Nat.le_refl _ | exact fun _ _ => rfl | exact rowEq0 _ _)
      ·intro j hj
       have e3 : ((j : Int)).toNat = j := by omega
       conv => whnf
       refine ⟨trivial, fun hc => ?_, fun hc => ?_⟩
       ·replace hc := of_decide_eq_true hc
        have hlt : j < F.length := by omega
        have hi := i4 j (by omega)
        conv => whnf
        rw [e3]
        refine ⟨?_, j + 1, hlt, by omega, rfl, rfl, ?_, ?_⟩
        ·exact g0
        all_goals repeat' (first | exact True.intro | refine leF_cons rfl ?_ ?_ | refine leS_cons rfl ?_ ?_ | (show PLe _ _ _ _; conv => whnf) | (show SLe _ _ _ _; conv => whnf) | (show PLeL _ _ _ _; conv => whnf) | apply And.intro | rfl | exact Nat.le_refl _ | exact fun _ _ => rfl | exact rowEq0 _ _)
        all_goals first
         | omega
         | exact putF_row (putN o O F j) (O.getD j default).toNat (F.getD j default) _
         | skip
       ·replace hc := of_decide_eq_false hc
        have : j = n := by omega
        subst this
        have hdl : (O.drop j).length = O.length - j := List.length_drop ..
        have hdr : RowEq (O.length - j) (fun i => fl eInt O (j + i)) (fl eInt (O.drop j)) := fun i hi => by
         unfold fl
         rw [getD_drop_]
        conv => whnf
        rw [e3]
        refine ⟨?_, (f, putN o O F j, a - need, O.drop j), ⟨by dsimp only; omega, hT2, ⟨by dsimp only; omega, by dsimp only; omega⟩, fun k hk => ?_, by dsimp only; omega⟩, by dsimp only; omega, rfl, rfl, ?_, ?_⟩
        ·exact g0
        ·dsimp only at hk ⊢
         rw [getD_drop_]
         exact i4 _ (by omega)
        all_goals repeat' (first | exact True.intro | refine leF_cons rfl ?_ ?_ | refine leS_cons rfl ?_ ?_ | (show PLe _ _ _ _; conv => whnf) | (show SLe _ _ _ _; conv => whnf) | (show PLeL _ _ _ _; conv => whnf) | apply And.intro | rfl | exact Nat.le_refl _ | exact fun _ _ => rfl | exact rowEq0 _ _)
        all_goals first | exact hdl.symm | exact hdr | skip
  ·replace hc := of_decide_eq_false hc
   have h0 : O = [] := List.length_eq_zero_iff.1 (by omega)
   subst h0
   rw [alF_nil] at i2
   subst i2
   have hr : RowEq l.length (eR T) (fl eInt ((List.range l.length).map T)) := fun k hk => by
    unfold fl
    rw [getD_map_range hk]
    rfl
   conv => whnf
   refine ⟨?_, [], ?_⟩
   ·exact g0
   conv => whnf
   refine ⟨rfl, ?_, trivial, trivial⟩
   all_goals repeat' (first | exact True.intro | refine leF_cons rfl ?_ ?_ | refine leS_cons rfl ?_ ?_ | (show PLe _ _ _ _; conv => whnf) | (show SLe _ _ _ _; conv => whnf) | (show PLeL _ _ _ _; conv => whnf) | apply And.intro | rfl | exact Nat.le_refl _ | exact fun _ _ => rfl | exact rowEq0 _ _)
   all_goals first | exact hr | skip
end Pv
end Go.Proofs.YtdcgnfkkklbckaaGreatDoor
/- TOP, THE WALKS: the way of a ramp. -/
set_option linter.unusedSimpArgs false
set_option linter.unusedVariables false
namespace Go.Proofs.YtdcgnfkkklbckaaGreatDoor
namespace Pv
set_option maxRecDepth 100000 in
set_option maxHeartbeats 4000000 in
theorem call48 (b t up down : Int) (n : Nat) (h1 : wi b 1073741824 = true) (ht : wi t 1073741824 = true) (h2 : wi up 1073741824 = true) (h3 : wi down 1073741824 = true) (hn : n ≤ 4096) :
  PureCall Tryz.prog 48 [.int .i64 b, .int .i64 t, .int .i64 up, .int .i64 down, .int .i64 n] [] ⟨.tup [.sl 0 1 (wayF b t up down n).length (fl eInt (wayF b t up down n)), .int .i64 0], [], []⟩ := by
 have e1 := (wi_iff _ _).1 h1
 have et := (wi_iff _ _).1 ht
 have e2 := (wi_iff _ _).1 h2
 have e3 := (wi_iff _ _).1 h3
 have hw : wi (n : Int) 4096 = true := (wi_iff _ _).2 (by omega)
 have hall : ∀ x ∈ [b, t, up, down], wi x 1073741824 = true := fun x hx => by
  simp only [List.mem_cons, List.not_mem_nil, or_false] at hx
  rcases hx with rfl | rfl | rfl | rfl <;> assumption
 refine pure_call mix Tryz.func48 fits48 rfl ?_
 conv => whnf
 refine ⟨_, fun _ => PureCall.arg_le (call111 2 [b, t, up, down] (by simp) hall) rfl ?_, ?_⟩
 ·have hr := rowL4 b t up down
  exact ent
 conv => whnf
 refine ⟨?_, fun hc => absurd hc (by decide), fun _ => ?_⟩
 ·exact g0
 conv => whnf
 refine ⟨_, fun _ => call56 n 4096, ?_⟩
 rw [hw]
 conv => whnf
 refine ⟨?_, fun hc => absurd hc (by decide), fun _ => ?_⟩
 ·exact g0
 conv => whnf
 refine ⟨?_, ?_⟩
 ·exact g0
 refine LSem.adopt 12 1000000 3 1 1 rfl rfl ?_
 refine LSem.loop (n := 39) mix (α := Nat) (fun i => i ≤ n)
  (fun i => [(0, .int .i64 (towN b t up down i)), (1, .int .i64 t), (2, .int .i64 up), (3, .int .i64 down), (12, .os 1000000), (25, .int .i64 n), (26, .int .i64 i)])
  (fun i => [(1000000, .row 0 3 1 (wayF b t up down i).length (fl eInt (wayF b t up down i)))]) (fun i => n - i) 0 ?_ ?_ ?_
 ·exact Nat.zero_le _
 ·refine ⟨rfl, rfl, ?_, ?_⟩
  all_goals repeat' (first | exact True.intro | refine leF_cons rfl ?_ ?_ | refine leS_cons rfl ?_ ?_ | (show PLe _ _ _ _; conv => whnf) | (show SLe _ _ _ _; conv => whnf) | (show PLeL _ _ _ _; conv => whnf) | apply And.intro | rfl | exact Nat.le_refl _ | exact fun _ _ => rfl | exact rowEq0 _ _)
 ·intro i hile
  have hr := towN_rng (r := b) (t := t) (up := up) (down := down) e1 et e2.1 e3.1 i
  have hwl := wayF_len b t up down i
  conv => whnf
  refine ⟨trivial, fun hc => ?_, fun hc => ?_⟩
  ·replace hc := of_decide_eq_true hc
   have hlt : i < n := by omega
   have hs := wayF_succ b t up down i
   conv => whnf
   refine ⟨_, fun _ => call112 (towN b t up down i) t up down hr e2 e3, ?_⟩
   conv => whnf
   refine ⟨?_, i + 1, hlt, ?_, rfl, rfl, ?_, ?_⟩
   ·exact g0
   ·omega
   all_goals repeat' (first | exact True.intro | refine leF_cons rfl ?_ ?_ | refine leS_cons rfl ?_ ?_ | (show PLe _ _ _ _; conv => whnf) | (show SLe _ _ _ _; conv => whnf) | (show PLeL _ _ _ _; conv => whnf) | apply And.intro | rfl | exact Nat.le_refl _ | exact fun _ _ => rfl | exact rowEq0 _ _)
   all_goals first | (rw [hs]; simp; done) | (rw [hs]; exact fl_push eInt _ (towN b t up down (i + 1))) | skip
  ·replace hc := of_decide_eq_false hc
   have : i = n := by omega
   subst this
   conv => whnf
   refine ⟨?_, [], ?_⟩
   ·exact g0
   conv => whnf
   refine ⟨rfl, ?_, trivial, trivial⟩
   all_goals repeat' (first | exact True.intro | refine leF_cons rfl ?_ ?_ | refine leS_cons rfl ?_ ?_ | (show PLe _ _ _ _; conv => whnf) | (show SLe _ _ _ _; conv => whnf) | (show PLeL _ _ _ _; conv => whnf) | apply And.intro | rfl | exact Nat.le_refl _ | exact fun _ _ => rfl | exact rowEq0 _ _)
end Pv
end Go.Proofs.YtdcgnfkkklbckaaGreatDoor
/- TOP, THE WALKS: Choose. -/
set_option linter.unusedSimpArgs false
set_option linter.unusedVariables false
namespace Go.Proofs.YtdcgnfkkklbckaaGreatDoor
namespace Pv
def c72L1 : C := (.seq (.reg [⟨some 42, 672, none, .bi false .lss (.t 41) (.t 40)⟩])
 (.seq (.cond (.t 42) .skip (.exit 0))
 (.seq (.block 1 (.seq (.reg [⟨some 43, 688, none, .ia 1 (.t 39) (.t 41)⟩,⟨some 44, 704, none, .ld 1 false (.t 43)⟩,⟨some 20, 320, none, .mv (.t 44)⟩])
 (.seq (.reg [⟨some 46, 736, none, .mv (.t 0)⟩,⟨some 47, 752, none, .mv (.t 20)⟩,⟨some 48, 768, none, .ia 7 (.t 46) (.t 47)⟩,⟨some 49, 784, none, .ld 7 true (.t 48)⟩,⟨some 50, 800, none, .mv (.t 3)⟩,⟨some 51, 816, none, .call (.c (.fn (.func 79) [] [])) [(.t 49), (.t 50)]⟩,⟨some 45, 720, none, .mv (.t 51)⟩,⟨some 52, 832, none, .ex (.t 45) 0⟩,⟨some 53, 848, none, .ex (.t 45) 1⟩,⟨some 21, 336, none, .al [(.int .i64 0), (.int .i64 0)]⟩,⟨none, 0, none, .st 2 (.t 21) (.t 52)⟩,⟨some 22, 352, none, .mv (.t 53)⟩])
 (.seq (.block 2 (.seq (.reg [⟨some 55, 880, none, .fa 1 (.t 21)⟩,⟨some 56, 896, none, .ld 1 false (.t 55)⟩,⟨some 57, 912, none, .fa 0 (.t 13)⟩,⟨some 58, 928, none, .ld 1 false (.t 57)⟩,⟨some 59, 944, none, .bi false .lss (.t 56) (.t 58)⟩,⟨some 54, 864, none, .mv (.t 59)⟩])
 (.cond (.t 54) (.seq (.reg [⟨some 60, 960, none, .mv (.t 15)⟩,⟨some 61, 976, none, .mv (.t 20)⟩,⟨some 62, 992, none, .fa 1 (.t 13)⟩,⟨some 63, 1008, none, .ld 1 false (.t 62)⟩,⟨some 64, 1024, none, .bd [(.int .i64 0), (.int .i64 0)] [(0, 1, (.t 61)), (1, 1, (.t 63))]⟩,⟨some 65, 1040, none, .bs 85 2 [(.t 64)]⟩,⟨some 66, 1056, none, .app 85 2 16 (.t 60) (.t 65)⟩,⟨some 15, 240, none, .mv (.t 66)⟩])
 (.exit 1)) (.seq (.reg [⟨some 68, 1088, none, .fa 0 (.t 21)⟩,⟨some 69, 1104, none, .ld 1 false (.t 68)⟩,⟨some 70, 1120, none, .fa 0 (.t 14)⟩,⟨some 71, 1136, none, .ld 1 false (.t 70)⟩,⟨some 72, 1152, none, .bi false .gtr (.t 69) (.t 71)⟩,⟨some 67, 1072, none, .mv (.t 72)⟩])
 (.cond (.t 67) (.seq (.reg [⟨some 73, 1168, none, .mv (.t 16)⟩,⟨some 74, 1184, none, .mv (.t 73)⟩,⟨some 75, 1200, (some (74, false)), .mv (.t 15)⟩,⟨some 76, 1216, (some (74, false)), .len (.t 75)⟩,⟨some 77, 1232, (some (74, false)), .bi false .eql (.t 76) (.c (.int .i64 0))⟩,⟨some 78, 1248, none, .pick (.t 74) (.c (.bool true)) (.t 77)⟩,⟨some 16, 256, none, .mv (.t 78)⟩])
 (.seq (.reg [⟨some 79, 1264, none, .mv (.t 15)⟩,⟨some 80, 1280, none, .mv (.t 20)⟩,⟨some 81, 1296, none, .fa 1 (.t 14)⟩,⟨some 82, 1312, none, .ld 1 false (.t 81)⟩,⟨some 83, 1328, none, .bd [(.int .i64 0), (.int .i64 0)] [(0, 1, (.t 80)), (1, 1, (.t 82))]⟩,⟨some 84, 1344, none, .bs 85 2 [(.t 83)]⟩,⟨some 85, 1360, none, .app 85 2 16 (.t 79) (.t 84)⟩,⟨some 15, 240, none, .mv (.t 85)⟩])
 (.exit 1))) .skip)))))
 (.seq (.seq (.reg [⟨some 86, 1376, none, .fa 0 (.t 21)⟩,⟨some 87, 1392, none, .ld 1 false (.t 86)⟩,⟨some 88, 1408, none, .fa 0 (.t 13)⟩,⟨some 89, 1424, none, .ld 1 false (.t 88)⟩,⟨some 90, 1440, none, .mx [(.t 87), (.t 89)]⟩,⟨some 91, 1456, none, .mv (.t 20)⟩,⟨some 92, 1472, none, .bd [(.int .i64 0), (.int .i64 0)] [(0, 1, (.t 90)), (1, 1, (.t 91))]⟩,⟨some 23, 368, none, .al [(.int .i64 0), (.int .i64 0)]⟩,⟨none, 0, none, .st 2 (.t 23) (.t 92)⟩])
 (.seq (.reg [⟨some 93, 1488, none, .ld 2 true (.t 23)⟩,⟨some 94, 1504, none, .fa 0 (.t 13)⟩,⟨some 95, 1520, none, .ld 1 false (.t 94)⟩,⟨some 96, 1536, none, .mv (.t 20)⟩,⟨some 97, 1552, none, .bd [(.int .i64 0), (.int .i64 0)] [(0, 1, (.t 95)), (1, 1, (.t 96))]⟩,⟨some 98, 1568, none, .eqa true [0, 0] (.t 93) (.t 97)⟩])
 (.cond (.t 98) (.reg [⟨some 99, 1584, none, .ld 2 true (.t 23)⟩,⟨none, 0, none, .st 2 (.t 13) (.t 99)⟩]) .skip)))
 (.seq (.reg [⟨some 100, 1600, none, .fa 1 (.t 21)⟩,⟨some 101, 1616, none, .ld 1 false (.t 100)⟩,⟨some 102, 1632, none, .fa 0 (.t 14)⟩,⟨some 103, 1648, none, .ld 1 false (.t 102)⟩,⟨some 104, 1664, none, .mn [(.t 101), (.t 103)]⟩,⟨some 105, 1680, none, .mv (.t 20)⟩,⟨some 106, 1696, none, .bd [(.int .i64 0), (.int .i64 0)] [(0, 1, (.t 104)), (1, 1, (.t 105))]⟩,⟨some 24, 384, none, .al [(.int .i64 0), (.int .i64 0)]⟩,⟨none, 0, none, .st 2 (.t 24) (.t 106)⟩])
 (.seq (.reg [⟨some 107, 1712, none, .ld 2 true (.t 24)⟩,⟨some 108, 1728, none, .fa 0 (.t 14)⟩,⟨some 109, 1744, none, .ld 1 false (.t 108)⟩,⟨some 110, 1760, none, .mv (.t 20)⟩,⟨some 111, 1776, none, .bd [(.int .i64 0), (.int .i64 0)] [(0, 1, (.t 109)), (1, 1, (.t 110))]⟩,⟨some 112, 1792, none, .eqa true [0, 0] (.t 107) (.t 111)⟩])
 (.cond (.t 112) (.reg [⟨some 113, 1808, none, .ld 2 true (.t 24)⟩,⟨none, 0, none, .st 2 (.t 14) (.t 113)⟩]) .skip))))))))
 (.reg [⟨some 114, 1824, none, .bi false .add (.t 41) (.c (.int .i64 1))⟩,⟨some 41, 656, none, .mv (.t 114)⟩]))))
def c72 : C := (.seq (.reg [⟨some 10, 160, none, .bx 2 (.t 4)⟩,⟨some 12, 192, none, .al [(.int .i64 0), (.int .i64 0), (.int .i64 0), (.nil 2)]⟩])
 (.seq (.drw [⟨some 26, 416, none, .fa 0 (.t 10)⟩,⟨some 27, 432, none, .ld 1 false (.t 26)⟩,⟨some 28, 448, none, .bd [(.int .i64 0), (.int .i64 0)] [(0, 1, (.t 27)), (1, 1, (.c (.int .i64 (-1))))]⟩,⟨some 29, 464, none, .fa 1 (.t 10)⟩,⟨some 30, 480, none, .ld 1 false (.t 29)⟩,⟨some 31, 496, none, .bd [(.int .i64 0), (.int .i64 0)] [(0, 1, (.t 30)), (1, 1, (.c (.int .i64 (-1))))]⟩,⟨some 13, 208, none, .al [(.int .i64 0), (.int .i64 0)]⟩,⟨some 14, 224, none, .al [(.int .i64 0), (.int .i64 0)]⟩,⟨none, 0, none, .st 2 (.t 13) (.t 28)⟩,⟨none, 0, none, .st 2 (.t 14) (.t 31)⟩]
  [(0, 3, 26), (0, 4, 26), (0, 5, 26), (0, 6, 26), (0, 7, 26), (1, 3, 27), (1, 4, 27), (1, 5, 27), (1, 6, 27), (1, 7, 27), (2, 3, 28), (2, 4, 28), (2, 5, 28), (2, 6, 28), (2, 7, 28), (3, 6, 29), (3, 7, 29), (3, 8, 29), (4, 6, 30), (4, 7, 30), (4, 8, 30), (5, 6, 31), (5, 7, 31), (5, 8, 31), (6, 7, 13)])
 (.seq (.reg [⟨some 15, 240, none, .mv (.c (.nil 2))⟩])
 (.seq (.reg [⟨some 16, 256, none, .mv (.c (.bool false))⟩])
 (.seq (.reg [⟨some 33, 528, none, .mv (.t 0)⟩,⟨some 34, 544, none, .mv (.t 1)⟩,⟨some 35, 560, none, .mv (.t 2)⟩,⟨some 36, 576, none, .call (.c (.fn (.func 74) [] [])) [(.t 33), (.t 34), (.t 35)]⟩,⟨some 32, 512, none, .mv (.t 36)⟩,⟨some 37, 592, none, .ex (.t 32) 0⟩,⟨some 38, 608, none, .ex (.t 32) 1⟩,⟨some 17, 272, none, .mv (.t 37)⟩,⟨some 18, 288, none, .mv (.t 38)⟩])
 (.seq (.seq (.reg [⟨some 39, 624, none, .mv (.t 17)⟩,⟨some 40, 640, none, .len (.t 39)⟩,⟨some 41, 656, none, .mv (.c (.int .i64 0))⟩])
 (.block 0 (.loop c72L1)))
 (.seq (.reg [⟨some 115, 1840, none, .fa 0 (.t 13)⟩,⟨some 116, 1856, none, .ld 1 false (.t 115)⟩,⟨some 117, 1872, none, .fa 0 (.t 14)⟩,⟨some 118, 1888, none, .ld 1 false (.t 117)⟩,⟨some 119, 1904, none, .bd [(.int .i64 0), (.int .i64 0)] [(0, 1, (.t 116)), (1, 1, (.t 118))]⟩,⟨some 120, 1920, none, .mv (.t 15)⟩,⟨some 121, 1936, none, .bd [(.int .i64 0), (.int .i64 0), (.int .i64 0), (.nil 2)] [(1, 2, (.t 119)), (3, 1, (.t 120))]⟩,⟨some 25, 400, none, .al [(.int .i64 0), (.int .i64 0), (.int .i64 0), (.nil 2)]⟩,⟨none, 0, none, .st 4 (.t 25) (.t 121)⟩])
 (.seq (.block 3 (.seq (.reg [⟨some 127, 2032, none, .mv (.t 15)⟩,⟨some 128, 2048, none, .len (.t 127)⟩,⟨some 129, 2064, none, .bi false .eql (.t 128) (.c (.int .i64 0))⟩,⟨some 126, 2016, none, .mv (.t 129)⟩])
 (.cond (.t 126) (.reg [⟨some 130, 2080, none, .mv (.t 5)⟩,⟨some 131, 2096, none, .fa 1 (.t 25)⟩,⟨some 132, 2112, none, .ld 2 true (.t 131)⟩,⟨some 133, 2128, none, .call (.c (.fn (.func 138) [] [])) [(.t 130), (.t 132)]⟩,⟨some 134, 2144, none, .fa 0 (.t 25)⟩,⟨none, 0, none, .st 1 (.t 134) (.t 133)⟩]) (.seq (.reg [⟨some 136, 2176, none, .mv (.t 16)⟩,⟨some 135, 2160, none, .mv (.t 136)⟩])
 (.cond (.t 135) (.reg [⟨some 137, 2192, none, .fa 1 (.t 25)⟩,⟨some 138, 2208, none, .fa 1 (.t 137)⟩,⟨some 139, 2224, none, .ld 1 false (.t 138)⟩,⟨some 140, 2240, none, .fa 0 (.t 25)⟩,⟨none, 0, none, .st 1 (.t 140) (.t 139)⟩]) (.reg [⟨some 122, 1952, none, .fa 1 (.t 25)⟩,⟨some 123, 1968, none, .fa 0 (.t 122)⟩,⟨some 124, 1984, none, .ld 1 false (.t 123)⟩,⟨some 125, 2000, none, .fa 0 (.t 25)⟩,⟨none, 0, none, .st 1 (.t 125) (.t 124)⟩]))))))
 (.seq (.reg [⟨some 141, 2256, none, .ld 4 true (.t 25)⟩,⟨none, 0, none, .st 4 (.t 12) (.t 141)⟩])
 .ret)))))))))
theorem fits72 : fits Tryz.prog false Tryz.f72 6 142 [(12, some (4, true))] = some c72.er := by kernel_rfl
def c22 : C := (.seq (.reg [⟨some 10, 160, none, .bx 2 (.t 4)⟩,⟨some 12, 192, none, .al [(.int .i64 0), (.int .i64 0), (.int .i64 0), (.nil 2)]⟩,⟨some 13, 208, none, .mv (.c (.int .i64 0))⟩])
 (.seq (.seq (.reg [⟨some 15, 240, none, .mv (.t 0)⟩,⟨some 16, 256, none, .mv (.t 1)⟩,⟨some 17, 272, none, .mv (.t 2)⟩,⟨some 18, 288, none, .mv (.t 3)⟩,⟨some 19, 304, none, .ld 2 true (.t 10)⟩,⟨some 20, 320, none, .mv (.t 5)⟩,⟨some 21, 336, none, .call (.c (.fn (.func 71) [] [])) [(.t 15), (.t 16), (.t 17), (.t 18), (.t 19), (.t 20)]⟩,⟨some 14, 224, none, .mv (.t 21)⟩])
 (.seq (.reg [⟨some 22, 352, none, .mv (.t 14)⟩,⟨some 23, 368, none, .bi false .neq (.t 22) (.c (.int .i64 0))⟩])
 (.cond (.t 23) (.seq (.reg [⟨some 24, 384, none, .bd [(.int .i64 0), (.int .i64 0), (.int .i64 0), (.nil 2)] []⟩,⟨some 25, 400, none, .mv (.t 14)⟩,⟨none, 0, none, .st 4 (.t 12) (.t 24)⟩,⟨some 13, 208, none, .mv (.t 25)⟩])
 .ret) .skip)))
 (.seq (.reg [⟨some 26, 416, none, .mv (.t 0)⟩,⟨some 27, 432, none, .mv (.t 1)⟩,⟨some 28, 448, none, .mv (.t 2)⟩,⟨some 29, 464, none, .mv (.t 3)⟩,⟨some 30, 480, none, .ld 2 true (.t 10)⟩,⟨some 31, 496, none, .mv (.t 5)⟩,⟨some 32, 512, none, .call (.c (.fn (.func 72) [] [])) [(.t 26), (.t 27), (.t 28), (.t 29), (.t 30), (.t 31)]⟩,⟨none, 0, none, .st 4 (.t 12) (.t 32)⟩,⟨some 13, 208, none, .mv (.c (.int .i64 0))⟩])
 .ret)))
theorem fits22 : fits Tryz.prog false Tryz.f22 6 33 [(12, some (4, true)), (13, none)] = some c22.er := by kernel_rfl
structure Cho where
 lo : Int
 lb : Int
 hi : Int
 hb : Int
 up : Bool
 ys : List (Int × Int)
def eYd (y : Int × Int) : List PV := [.int .i64 y.1, .int .i64 y.2]
def choS (l : List Cd) (b : Int) (s : Cho) (i : Int) : Cho :=
 if (permF (l.getD i.toNat default) b).2 < s.lo then { s with ys := s.ys ++ [(i, s.lb)] }
 else if s.hi < (permF (l.getD i.toNat default) b).1 then { s with up := (bif s.up then true else decide ((s.ys.length : Int) = 0)), ys := s.ys ++ [(i, s.hb)] }
 else { lo := if s.lo < (permF (l.getD i.toNat default) b).1 then (permF (l.getD i.toNat default) b).1 else s.lo, lb := if s.lo < (permF (l.getD i.toNat default) b).1 then i else s.lb,
        hi := if (permF (l.getD i.toNat default) b).2 < s.hi then (permF (l.getD i.toNat default) b).2 else s.hi, hb := if (permF (l.getD i.toNat default) b).2 < s.hi then i else s.hb, up := s.up, ys := s.ys }
def choN (l : List Cd) (b lo hi : Int) (act : List Int) : Nat → Cho
 | 0 => ⟨lo, -1, hi, -1, false, []⟩
 | n + 1 => choS l b (choN l b lo hi act n) (act.getD n default)
def choL (l : List Cd) (day level b lo hi : Int) : Cho := choN l b lo hi (actF l day level) (actF l day level).length
def relF (s : Cho) (wanted : Int) : Int := if s.ys.length = 0 then clampF wanted s.lo s.hi else if s.up = true then s.hi else s.lo
set_option maxRecDepth 100000 in
set_option maxHeartbeats 4000000 in
theorem call72 (l : List Cd) (day level before lo hi wanted : Int) (h20 : l.length < 20) (hl : limC l = 0) (hd : wi day 364 = true) (hv : wi level 16777216 = true) (h1 : wi before 1073741824 = true) :
  PureCall Tryz.prog 72 [.sl 2 7 l.length (fl eCd l), .int .i64 day, .int .i64 level, .int .i64 before, .agg [.int .i64 lo, .int .i64 hi], .int .i64 wanted] []
   ⟨.agg [.int .i64 (relF (choL l day level before lo hi) wanted), .int .i64 (choL l day level before lo hi).lo, .int .i64 (choL l day level before lo hi).hi, .sl 0 2 (choL l day level before lo hi).ys.length (fl eYd (choL l day level before lo hi).ys)], [], []⟩ := by
 refine pure_call mix Tryz.func72 fits72 rfl ?_
 conv => whnf
 refine ⟨rfl, ?_⟩
 conv => whnf
 refine ⟨_, fun _ => call74 l day level h20 hl hd hv, ?_⟩
 conv => whnf
 refine ⟨?_, ?_⟩
 ·exact g0
 refine LSem.adopt 15 1000000 85 2 2 rfl rfl ?_
 obtain ⟨act, hact⟩ : ∃ act, act = actF l day level := ⟨_, rfl⟩
 have hain : ∀ k, k < act.length → (0 ≤ act.getD k default ∧ act.getD k default < l.length) ∧ oneC (l.getD (act.getD k default).toNat default) = 0 := fun k hk => by
  have hm : act.getD k default ∈ act := by
   rw [List.getD_eq_getElem?_getD, List.getElem?_eq_getElem hk]; exact List.getElem_mem hk
  rw [hact] at hm
  obtain ⟨j, hj, hx, hp⟩ := keepN_mem _ _ hm
  rw [← hact] at hx hp
  refine ⟨by rw [hx]; exact ordF_in l j hj, ?_⟩
  unfold goneB applB at hp
  refine Decidable.byContradiction fun hne => ?_
  rw [decide_eq_false hne] at hp
  simp at hp
 have hal : act.length ≤ l.length := by rw [hact]; exact keepN_len _
 have hcho : choL l day level before lo hi = choN l before lo hi act act.length := by rw [hact]; rfl
 rw [hcho, ← hact]
 clear hcho hact
 refine LSem.loop (n := 142) mix (α := Nat) (fun i => i ≤ act.length ∧ (choN l before lo hi act i).ys.length ≤ i)
  (fun i => [(0, .sl 2 7 l.length (fl eCd l)), (3, .int .i64 before), (5, .int .i64 wanted), (12, .pt 192 0 0), (13, .pt 208 0 0), (14, .pt 224 0 0), (15, .os 1000000), (16, .bool (choN l before lo hi act i).up), (39, .os 576), (40, .int .i64 act.length), (41, .int .i64 i)])
  (fun i => [(192, .box [.int .i64 0, .int .i64 0, .int .i64 0, .nil 2]), (208, .box [.int .i64 (choN l before lo hi act i).lo, .int .i64 (choN l before lo hi act i).lb]), (224, .box [.int .i64 (choN l before lo hi act i).hi, .int .i64 (choN l before lo hi act i).hb]),
   (576, .row 1 3 1 act.length (fl eInt act)), (1000000, .row 0 85 2 (choN l before lo hi act i).ys.length (fl eYd (choN l before lo hi act i).ys))]) (fun i => act.length - i) 0 ?_ ?_ ?_
 ·exact ⟨Nat.zero_le _, Nat.le_refl _⟩
 ·refine ⟨rfl, rfl, ?_, ?_⟩
  all_goals repeat' (first | exact True.intro | refine leF_cons rfl ?_ ?_ | refine leS_cons rfl ?_ ?_ | (show PLe _ _ _ _; conv => whnf) | (show SLe _ _ _ _; conv => whnf) | (show PLeL _ _ _ _; conv => whnf) | apply And.intro | rfl | exact Nat.le_refl _ | exact fun _ _ => rfl | exact rowEq0 _ _)
 ·rintro i ⟨hile, hys⟩
  have hj : ((i : Int)).toNat = i := by omega
  conv => whnf
  refine ⟨trivial, fun hc => ?_, fun hc => ?_⟩
  ·replace hc := of_decide_eq_true hc
   have hlt : i < act.length := by omega
   obtain ⟨⟨ha1, ha2⟩, hone⟩ := hain i hlt
   have hst : choN l before lo hi act (i + 1) = choS l before (choN l before lo hi act i) (act.getD i default) := rfl
   obtain ⟨s, hs⟩ : ∃ s, s = choN l before lo hi act i := ⟨_, rfl⟩
   obtain ⟨a, haa⟩ : ∃ a, a = act.getD i default := ⟨_, rfl⟩
   rw [← hs, ← haa] at hst
   conv => whnf
   refine ⟨_, fun _ => call79 (l.getD (act.getD ((i : Int)).toNat default).toNat default) before (by rw [hj]; exact hone) h1, ?_⟩
   rw [hj, ← hs, ← haa]
   rw [← hs] at hys
   obtain ⟨pl, hpl⟩ : ∃ x, x = (permF (l.getD a.toNat default) before).1 := ⟨_, rfl⟩
   obtain ⟨pm, hpm⟩ : ∃ x, x = (permF (l.getD a.toNat default) before).2 := ⟨_, rfl⟩
   unfold choS at hst
   rw [← hpl, ← hpm] at hst ⊢
   conv => whnf
   refine ⟨?_, fun hA => ?_, fun hA => ?_⟩
   ·exact g0
   ·replace hA := of_decide_eq_true hA
    rw [if_pos hA] at hst
    conv => whnf
    refine ⟨?_, i + 1, ⟨hlt, ?_⟩, ?_, rfl, rfl, ?_, ?_⟩
    ·exact g0
    ·rw [hst]; simp; exact hys
    ·omega
    all_goals repeat' (first | exact True.intro | refine leF_cons rfl ?_ ?_ | refine leS_cons rfl ?_ ?_ | (show PLe _ _ _ _; conv => whnf) | (show SLe _ _ _ _; conv => whnf) | (show PLeL _ _ _ _; conv => whnf) | apply And.intro | rfl | exact Nat.le_refl _ | exact fun _ _ => rfl | exact rowEq0 _ _)
    all_goals first | (rw [hst]; done) | (rw [hst]; simp; done) | (rw [hst]; exact fl_push eYd s.ys (a, s.lb)) | skip
   ·replace hA := of_decide_eq_false hA
    rw [if_neg hA] at hst
    conv => whnf
    refine ⟨?_, fun hB => ?_, fun hB => ?_⟩
    ·exact g0
    ·replace hB := of_decide_eq_true hB
     rw [if_pos hB] at hst
     conv => whnf
     refine ⟨?_, i + 1, ⟨hlt, ?_⟩, ?_, rfl, rfl, ?_, ?_⟩
     ·exact g0
     ·rw [hst]; simp; exact hys
     ·omega
     all_goals repeat' (first | exact True.intro | refine leF_cons rfl ?_ ?_ | refine leS_cons rfl ?_ ?_ | (show PLe _ _ _ _; conv => whnf) | (show SLe _ _ _ _; conv => whnf) | (show PLeL _ _ _ _; conv => whnf) | apply And.intro | rfl | exact Nat.le_refl _ | exact fun _ _ => rfl | exact rowEq0 _ _)
     all_goals first | (rw [hst]; done) | (rw [hst]; simp; done) | (rw [hst]; exact fl_push eYd s.ys (a, s.hb)) | (rw [hst]; rfl) | skip
    ·replace hB := of_decide_eq_false hB
     rw [if_neg hB] at hst
     conv => whnf
     refine ⟨?_, fun hC => ?_, fun hC => ?_⟩
     ·exact g0
     ·have hC' : s.lo < pl := by
       simp at hC
       omega
      conv => whnf
      refine ⟨?_, fun hD => ?_, fun hD => ?_⟩
      ·exact g0
      ·have hD' : pm < s.hi := by
        simp at hD
        omega
       conv => whnf
       refine ⟨?_, i + 1, ⟨hlt, ?_⟩, ?_, rfl, rfl, ?_, ?_⟩
       ·exact g0
       ·rw [hst]; dsimp only; omega
       ·omega
       all_goals repeat' (first | exact True.intro | refine leF_cons rfl ?_ ?_ | refine leS_cons rfl ?_ ?_ | (show PLe _ _ _ _; conv => whnf) | (show SLe _ _ _ _; conv => whnf) | (show PLeL _ _ _ _; conv => whnf) | apply And.intro | rfl | exact Nat.le_refl _ | exact fun _ _ => rfl | exact rowEq0 _ _)
       all_goals first | (rw [hst]; done) | (rw [hst]; exact fun _ _ => rfl) | (rw [hst]; dsimp only; (repeat' split) <;> omega) | skip
      ·have hD' : ¬ pm < s.hi := by
        simp at hD
        omega
       conv => whnf
       refine ⟨?_, i + 1, ⟨hlt, ?_⟩, ?_, rfl, rfl, ?_, ?_⟩
       ·exact g0
       ·rw [hst]; dsimp only; omega
       ·omega
       all_goals repeat' (first | exact True.intro | refine leF_cons rfl ?_ ?_ | refine leS_cons rfl ?_ ?_ | (show PLe _ _ _ _; conv => whnf) | (show SLe _ _ _ _; conv => whnf) | (show PLeL _ _ _ _; conv => whnf) | apply And.intro | rfl | exact Nat.le_refl _ | exact fun _ _ => rfl | exact rowEq0 _ _)
       all_goals first | (rw [hst]; done) | (rw [hst]; exact fun _ _ => rfl) | (rw [hst]; dsimp only; (repeat' split) <;> omega) | skip
     ·have hC' : ¬ s.lo < pl := by
       simp at hC
       omega
      conv => whnf
      refine ⟨?_, fun hD => ?_, fun hD => ?_⟩
      ·exact g0
      ·have hD' : pm < s.hi := by
        simp at hD
        omega
       conv => whnf
       refine ⟨?_, i + 1, ⟨hlt, ?_⟩, ?_, rfl, rfl, ?_, ?_⟩
       ·exact g0
       ·rw [hst]; dsimp only; omega
       ·omega
       all_goals repeat' (first | exact True.intro | refine leF_cons rfl ?_ ?_ | refine leS_cons rfl ?_ ?_ | (show PLe _ _ _ _; conv => whnf) | (show SLe _ _ _ _; conv => whnf) | (show PLeL _ _ _ _; conv => whnf) | apply And.intro | rfl | exact Nat.le_refl _ | exact fun _ _ => rfl | exact rowEq0 _ _)
       all_goals first | (rw [hst]; done) | (rw [hst]; exact fun _ _ => rfl) | (rw [hst]; dsimp only; (repeat' split) <;> omega) | skip
      ·have hD' : ¬ pm < s.hi := by
        simp at hD
        omega
       conv => whnf
       refine ⟨?_, i + 1, ⟨hlt, ?_⟩, ?_, rfl, rfl, ?_, ?_⟩
       ·exact g0
       ·rw [hst]; dsimp only; omega
       ·omega
       all_goals repeat' (first | exact True.intro | refine leF_cons rfl ?_ ?_ | refine leS_cons rfl ?_ ?_ | (show PLe _ _ _ _; conv => whnf) | (show SLe _ _ _ _; conv => whnf) | (show PLeL _ _ _ _; conv => whnf) | apply And.intro | rfl | exact Nat.le_refl _ | exact fun _ _ => rfl | exact rowEq0 _ _)
       all_goals first | (rw [hst]; done) | (rw [hst]; exact fun _ _ => rfl) | (rw [hst]; dsimp only; (repeat' split) <;> omega) | skip
  ·replace hc := of_decide_eq_false hc
   have : i = act.length := by omega
   subst this
   obtain ⟨s, hs⟩ : ∃ s, s = choN l before lo hi act act.length := ⟨_, rfl⟩
   rw [← hs] at hys ⊢
   conv => whnf
   refine ⟨trivial, fun hE => ?_, fun hE => ?_⟩
   ·simp only [bp] at hE
    rw [show relF s wanted = clampF wanted s.lo s.hi from if_pos (by omega)]
    conv => whnf
    refine ⟨_, fun _ => call138 wanted s.lo s.hi, ?_⟩
    conv => whnf
    refine ⟨?_, [], ?_⟩
    ·exact g0
    conv => whnf
    refine ⟨rfl, ?_, trivial, trivial⟩
    all_goals repeat' (first | exact True.intro | refine leF_cons rfl ?_ ?_ | refine leS_cons rfl ?_ ?_ | (show PLe _ _ _ _; conv => whnf) | (show SLe _ _ _ _; conv => whnf) | (show PLeL _ _ _ _; conv => whnf) | apply And.intro | rfl | exact Nat.le_refl _ | exact fun _ _ => rfl | exact rowEq0 _ _)
   ·simp only [bp] at hE
    have h0 : relF s wanted = if s.up = true then s.hi else s.lo := if_neg (by omega)
    rw [h0]
    conv => whnf
    refine ⟨trivial, fun hF => ?_, fun hF => ?_⟩
    ·rw [if_pos hF]
     conv => whnf
     refine ⟨?_, [], ?_⟩
     ·exact g0
     conv => whnf
     refine ⟨rfl, ?_, trivial, trivial⟩
     all_goals repeat' (first | exact True.intro | refine leF_cons rfl ?_ ?_ | refine leS_cons rfl ?_ ?_ | (show PLe _ _ _ _; conv => whnf) | (show SLe _ _ _ _; conv => whnf) | (show PLeL _ _ _ _; conv => whnf) | apply And.intro | rfl | exact Nat.le_refl _ | exact fun _ _ => rfl | exact rowEq0 _ _)
    ·rw [if_neg (by rw [hF]; decide)]
     conv => whnf
     refine ⟨?_, [], ?_⟩
     ·exact g0
     conv => whnf
     refine ⟨rfl, ?_, trivial, trivial⟩
     all_goals repeat' (first | exact True.intro | refine leF_cons rfl ?_ ?_ | refine leS_cons rfl ?_ ?_ | (show PLe _ _ _ _; conv => whnf) | (show SLe _ _ _ _; conv => whnf) | (show PLeL _ _ _ _; conv => whnf) | apply And.intro | rfl | exact Nat.le_refl _ | exact fun _ _ => rfl | exact rowEq0 _ _)
theorem call22 (l : List Cd) (day level before lo hi wanted : Int) (h20 : l.length < 20) (hl : limC l = 0) (hd : wi day 364 = true) (hv : wi level 16777216 = true) (h1 : wi before 1073741824 = true) (h2 : wi lo 1073741824 = true) (h3 : wi hi 1073741824 = true) (h4 : wi wanted 1073741824 = true) (h5 : lo ≤ hi) :
  PureCall Tryz.prog 22 [.sl 2 7 l.length (fl eCd l), .int .i64 day, .int .i64 level, .int .i64 before, .agg [.int .i64 lo, .int .i64 hi], .int .i64 wanted] []
   ⟨.tup [.agg [.int .i64 (relF (choL l day level before lo hi) wanted), .int .i64 (choL l day level before lo hi).lo, .int .i64 (choL l day level before lo hi).hi, .sl 0 2 (choL l day level before lo hi).ys.length (fl eYd (choL l day level before lo hi).ys)], .int .i64 0], [], []⟩ := by
 refine pure_call mix Tryz.func22 fits22 rfl ?_
 conv => whnf
 refine ⟨_, fun _ => call71 2 l day level before lo hi wanted hl hd hv h1 h2 h3 h4 h5, ?_⟩
 conv => whnf
 refine ⟨?_, fun hc => absurd hc (by decide), fun _ => ?_⟩
 ·exact g0
 conv => whnf
 refine ⟨_, fun _ => call72 l day level before lo hi wanted h20 hl hd hv h1, ?_⟩
 conv => whnf
 refine ⟨?_, [], ?_⟩
 ·exact g0
 conv => whnf
 refine ⟨rfl, ?_, trivial, trivial⟩
 all_goals repeat' (first | exact True.intro | refine leF_cons rfl ?_ ?_ | refine leS_cons rfl ?_ ?_ | (show PLe _ _ _ _; conv => whnf) | (show SLe _ _ _ _; conv => whnf) | (show PLeL _ _ _ _; conv => whnf) | apply And.intro | rfl | exact Nat.le_refl _ | exact fun _ _ => rfl | exact rowEq0 _ _)
end Pv
end Go.Proofs.YtdcgnfkkklbckaaGreatDoor
set_option linter.unusedSimpArgs false
set_option linter.unusedVariables false
namespace Go.Proofs.YtdcgnfkkklbckaaGreatDoor
namespace Pv
open Go.RowKit
def IntsIn (w : World) (g : Nat) (T : TypeId) (cap : Nat) (l : List Int) : Prop :=
 ∃ (cur : Array Value) (fz : Nat × Nat), w.heap[g]? = some (.cells cur T fz) ∧ fzOff cur.size fz ∧ l.length ≤ cap ∧ cap ≤ maxLen ∧ cur.size = cap * 1 ∧ cur.toList.take (l.length * 1) = l.map (Value.int .i64)
def InPlace (P : Program) (F : FuncId) (l l' : List Int) (back : Bool) : Prop :=
 (∃ fn, P.funcs[F]? = some fn ∧ fn.body.isSome = true ∧ (fn.name == "runtime.NumGoroutine") = false) ∧
 ∀ (w : World) (g cap : Nat) (T : TypeId), IntsIn w g T cap l → Calls P F #[.slice (some ⟨g, 0, none⟩) l.length cap] w fun e w' =>
  e = .returned (if back then .slice (some ⟨g, 0, none⟩) l'.length cap else .tuple #[]) ∧ Keeps (· = g) w w' ∧ IntsIn w' g T cap l'
section
variable {P : Program} {X : Cx} {γ : Gh} {w w0 : World} {may : Nat → Prop} {a : Act} {s : PS}
theorem call_wp {wr : Bool} {o : Oper} {F : FuncId} {y : A} {p : PV} {K : Act → World → Prop} {Q : Exit → Act → World → Prop} {R : Value → World → Prop}
  (hR : Rel X w0 may a w s γ) (hc : compI P wr o = some (.call (.c (.fn (.func F) [] [])) [y])) (hv : A.val s.fr y = some p)
  (hfn : ∃ fn, P.funcs[F]? = some fn ∧ fn.body.isSome = true ∧ (fn.name == "runtime.NumGoroutine") = false)
  (hC : ∀ v, Rep X γ w p v → Calls P F #[v] w fun e w' => ∃ u, e = .returned u ∧ R u w') (hK : ∀ u w', R u w' → K (a.put o.dst u) w') : o.wp P a w K Q := by
 have H := eval_opd hR
 have hcall : ∃ cl f y' ys, o.op = .call cl ∧ cl.callee = .value f ∧ arg f = some y' ∧ mapO (fun (q : Operand × TypeId) => argT P q.2 q.1) (cl.args.toList.zip cl.argTypes.toList) = some ys ∧ cl.args.size = cl.argTypes.size ∧ y' = .c (.fn (.func F) [] []) ∧ ys = [y] := by
  revert hc
  unfold compI
  intro hc
  repeat' (split at hc)
  all_goals first
   | (cases hc; done)
   | (injection hc with hc; injection hc; done)
   | (obtain ⟨y, hy, hh⟩ := Option.map_eq_some_iff.1 hc; cases hh; done)
   | (injection hc with hc; injection hc with e1 e2
      rename_i _ cl hop _ f hcal _ _ y' ys hy hys hsz
      exact ⟨_, _, _, _, hop, hcal, hy, hys, by simpa using hsz, e1, e2⟩)
 obtain ⟨cl, f, y', ys, hop, hcal, hy, hys, hsz, rfl, rfl⟩ := hcall
 have hz : (cl.args.toList.zip cl.argTypes.toList).map (fun q => a.eval q.1) = (cl.args.map a.eval).toList := by
  have hl : cl.args.toList.length = cl.argTypes.toList.length := by simpa using hsz
  have h1 : (cl.args.toList.zip cl.argTypes.toList).map (fun q => q.1) = cl.args.toList := List.map_fst_zip (by omega)
  rw [show (fun q : Operand × TypeId => a.eval q.1) = a.eval ∘ (fun q => q.1) from rfl, ← List.map_map, h1]
  simp
 have hr1 : Rep X γ w (.fn (.func F) [] []) (a.eval f) := arg_rep H hy (by rfl)
 have hr2 : RepL X γ w [p] (cl.args.map a.eval).toList := by
  have := argsT_rep (P := P) (α := Operand × TypeId) H (fun q => q.2) (fun q => q.1) (xs := cl.args.toList.zip cl.argTypes.toList) (ys := [y]) (ps := [p]) hys (by simp only [valL, hv])
  rwa [hz] at this
 obtain ⟨v, us, hvs, hrv, hrus⟩ := hr2.cons_inv
 have hus := hrus.nil_inv
 subst hus
 obtain ⟨fn, hfn1, hbody, hname⟩ := hfn
 have hfe : ∀ fv, Rep X γ w (.fn (.func F) [] []) fv → fv = .func (.func F) #[] #[] := by
  intro fv h
  cases h with
  | fn _ _ _ vs us hvl hul h h' =>
    have e1 : vs = [] := List.eq_nil_of_length_eq_zero hvl
    have e2 : us = [] := List.eq_nil_of_length_eq_zero hul
    subst e1 e2
    rfl
 have hfe := hfe _ hr1
 have hrun : (execOp a.eval o).run P w = .ok (.enter F #[v]) w := by
  unfold execOp
  rw [hop]
  have hb : fn.body ≠ none := by intro h; rw [h] at hbody; cases hbody
  have hnm : fn.name ≠ "runtime.NumGoroutine" := by simpa using hname
  have hav : cl.args.map a.eval = #[v] := by rw [← Array.toList_inj, hvs]
  simp [resolve, hcal, hfe, Deferred.ofValue, invoke, callFunc, hfn1, hb, hnm, hav]
 unfold Oper.wp
 rw [hrun]
 simp only [Oper.upon]
 refine (hC v hrv).mono ?_
 rintro e w' ⟨u, rfl, hu⟩
 exact hK u w' hu
/-! ### a row of numbers -/
theorem row_ints {ge : GE} {τ e : Nat} {f : Nat → List PV} {l : List Int} (h : RepS X γ w ge (.row τ e 1 l.length f)) (hf : RowEq l.length f (fl (fun n : Int => [PV.int .i64 n]) l)) (hl : 0 < l.length) :
  ∃ g cap, ge.hdr = .slice (some ⟨g, 0, none⟩) l.length cap ∧ ge.blk = some g ∧ ge.z = 1 ∧ IntsIn w g e cap l := by
 obtain ⟨vs, h1, h2, h3, h4, h5⟩ := h.rows
 have hvs : vs = l.map (Value.int .i64) := by
  refine List.ext_getElem? fun j => ?_
  have hlen : vs.length = l.length := by rw [h5.len, Nat.mul_one]
  by_cases hj : j < l.length
  ·have hc : (f j)[0]? = some (.int .i64 (l.getD j default)) := by rw [hf j hj]; rfl
   have hu : vs[j]? = some (vs[j]'(by omega)) := List.getElem?_eq_getElem (by omega)
   have := h5.rep j 0 _ (vs[j]'(by omega)) hj hc (by rw [Nat.mul_one, Nat.add_zero]; exact hu)
   have hi : vs[j]'(by omega) = .int .i64 (l.getD j default) := by
    have h6 : Rep X γ w (.int .i64 (l.getD j default)) (vs[j]'(by omega)) := this
    exact h6.int_inv
   rw [hu, hi, List.getElem?_map, getD_some hj]; rfl
  ·rw [List.getElem?_eq_none (by omega), List.getElem?_eq_none (by simp; omega)]
 subst hvs
 rcases h4.2 with ⟨_, h0⟩ | ⟨g, cap, cur, fz, hh, hg, hfz, hnc, hcm, hsz, htk⟩
 ·omega
 ·exact ⟨g, cap, hh, by rw [h2, hh]; rfl, h1, cur, fz, hg, hfz, hnc, hcm, hsz, htk⟩
theorem ints_row {w' : World} {γ' : Gh} {e g cap : Nat} {l : List Int} (h : IntsIn w' g e cap l) :
  RepS X γ' w' ⟨some g, .slice (some ⟨g, 0, none⟩) l.length cap, 1⟩ (.row 0 e 1 l.length (fl (fun n : Int => [PV.int .i64 n]) l)) := by
 obtain ⟨cur, fz, hg, hfz, hnc, hcm, hsz, htk⟩ := h
 refine ⟨l.map (Value.int .i64), rfl, rfl, rfl, ⟨by simp, .inr ⟨g, cap, cur, fz, rfl, hg, hfz, hnc, hcm, hsz, htk⟩⟩, fun u hu => ?_, fun i hi => rfl, fun i hi c hc => ?_, fun i j c u hi hc hu => ?_⟩
 ·obtain ⟨n, _, rfl⟩ := List.mem_map.1 hu; rfl
 ·have : c = .int .i64 (l.getD i default) := by simpa [fl] using hc
  subst this; rfl
 ·have hj : j = 0 := by
   have := (List.getElem?_eq_some_iff.1 hc).1
   simp [fl] at this; omega
  subst hj
  have : c = .int .i64 (l.getD i default) := by
   have h0 : some (PV.int .i64 (l.getD i default)) = some c := hc
   injection h0 with h0; exact h0.symm
  subst this
  rw [Nat.mul_one, Nat.add_zero, List.getElem?_map, getD_some hi] at hu
  injection hu with hu; subst hu
  exact .int _ _
end
section
variable {P : Program} {wr : Bool} {np : Nat} {Q : Lv → PS → Prop}
theorem ents_put {X : Cx} {w0 w w' : World} {may : Nat → Prop} {a : Act} {s s' : PS} {γ γ' : Gh} {E : Eff} {v : Value} {d : Nat} (h : Rel X w0 may a w s γ) (hE : EffOK X γ w s.st E v w' γ' s'.st) (hn : s'.n = s.n) (hd : d < s.n)
  (hfr : s'.fr = upd (voidF E.kill s.fr) d E.val) : Rel X w0 may (a.put (some d) v) w' s' γ' := by
 refine h.after hE hn fun t p hp => ?_
 rw [hfr] at hp
 by_cases ht : t = d
 ·subst ht
  rw [upd_same] at hp; injection hp with hp; subst hp
  exact .inl ⟨rfl, hd, hE.val⟩
 ·rw [upd_ne _ _ ht] at hp
  simp only [voidF] at hp
  obtain ⟨q, hq, rfl⟩ := Option.map_eq_some_iff.1 hp
  exact .inr ⟨fun h => ht (by injection h with h; exact h.symm), q, hq, rfl⟩
def inplaceSt (n : Nat) (fr : Nat → Option PV) (st : Nat → Option SE) (log : Nat → Option LogE) (ta tb r e : Nat) (l' : List Int) (back : Bool) : PS :=
 match back with
 | false => ⟨n, upd (upd fr ta (.os r)) tb (.tup []), upd st r (.row 0 e 1 l'.length (fl (fun n : Int => [PV.int .i64 n]) l')), True, log⟩
 | true => ⟨n, upd (voidF [r] (upd fr ta (.os r))) tb (.os r), upd (voidS [r] st) r (.row 0 e 1 l'.length (fl (fun n : Int => [PV.int .i64 n]) l')), True, log⟩
theorem LSem.inplace {F : FuncId} {l l' : List Int} {back : Bool} (hF : InPlace P F l l' back) (hl : 0 < l.length) (hl' : back = false → l'.length = l.length)
  {n : Nat} {fr : Nat → Option PV} {st : Nat → Option SE} {log : Nat → Option LogE} {slot ta ia tb ib r τ e : Nat} {f : Nat → List PV} {rest : List Ins}
  (h1 : fr slot = some (.os r)) (h2 : st r = some (.row τ e 1 l.length f)) (h3 : RowEq l.length f (fl (fun n : Int => [PV.int .i64 n]) l)) (ha : Nat.blt ta n = true) (hb : Nat.blt tb n = true)
  (hK : evK (PureCall P) false 2 rest (inplaceSt n fr st log ta tb r e l' back) (fun s' => Q .nrm s')) :
  LSem P wr np (.reg (⟨some ta, ia, none, .mv (.t slot)⟩ :: ⟨some tb, ib, none, .call (.c (.fn (.func F) [] [])) [.t ta]⟩ :: rest)) Q ⟨n, fr, st, True, log⟩ := by
 intro hQ code hc X w0 may a w γ hX hR
 have hcode : ∃ id ops, code = .region id ops false ∧ mapO (compO P wr ops) ops.toList = some (⟨some ta, ia, none, .mv (.t slot)⟩ :: ⟨some tb, ib, none, .call (.c (.fn (.func F) [] [])) [.t ta]⟩ :: rest) := by
  cases code with
  | region id ops dr =>
    cases dr with
    | false =>
      simp only [comp, C.er] at hc
      split at hc
      ·rename_i hm
       simp only [Option.some.injEq, C.reg.injEq] at hc
       subst hc
       exact ⟨id, ops, rfl, hm⟩
      ·cases hc
    | true => simp only [comp, C.er] at hc; (repeat' (split at hc)) <;> cases hc
  | _ => simp only [comp, C.er] at hc <;> (repeat' (split at hc)) <;> simp_all
 obtain ⟨id, ops, rfl, hm⟩ := hcode
 obtain ⟨cr, s3, hev, hQ3⟩ := evK_evL hK
 have hok3 := hQ _ _ hQ3
 refine wp_region ?_
 have hlen : ops.size = 2 + rest.length := by have := mapO_length hm; simp at this; omega
 have hget : ∀ k o, ops[k]? = some o → ∃ x, (⟨some ta, ia, none, .mv (.t slot)⟩ :: ⟨some tb, ib, none, .call (.c (.fn (.func F) [] [])) [.t ta]⟩ :: rest : List Ins)[k]? = some x ∧ compO P wr ops o = some x := fun k o hk => comp_ins hm k o hk
 have o0 : ops[0]? = some (ops[0]'(by omega)) := Array.getElem?_eq_getElem (by omega)
 have o1 : ops[1]? = some (ops[1]'(by omega)) := Array.getElem?_eq_getElem (by omega)
 obtain ⟨x0, hx0, hc0⟩ := hget 0 _ o0
 obtain ⟨x1, hx1, hc1⟩ := hget 1 _ o1
 simp only [List.getElem?_cons_zero, Option.some.injEq] at hx0
 simp only [List.getElem?_cons_succ, List.getElem?_cons_zero, Option.some.injEq] at hx1
 subst hx0 hx1
 have hrange : List.range ops.size = 0 :: 1 :: (num 2 rest).map (·.1) := by
  rw [num_fst, hlen, List.range_eq_range', Nat.add_comm 2, List.range'_succ, List.range'_succ]
 rw [hrange, wpOps_cons]
 refine step_sound (lg := false) (c := default) (i := 0) (s' := ⟨n, upd fr ta (.os r), st, True, log⟩) o0 hR hc0 ?_ trivial fun a1 w1 γ1 hR1 => ?_
 ·simp [stepI, guardV, I.opr, valL, A.val, h1, stripI, stripS, PV.isCnd, I.acc, getL, eff, eMv, PV.topV, Eff.pure, logO, logCs, okO, newSt, newFr, PV.norm, ha]
 rw [wpOps_cons]
 obtain ⟨hg1, hi1, hd1⟩ := compO_parts hc1
 unfold wpOp
 rw [o1]
 simp only
 rw [guard_none hg1 rfl, if_pos rfl]
 refine .inl ?_
 obtain ⟨hfn, hC⟩ := hF
 have hgr : ∃ ge, γ1 r = some ge := by
  have := hR1.st.dom r
  simp only [h2] at this
  exact Option.isSome_iff_exists.1 this
 obtain ⟨ge, hge⟩ := hgr
 obtain ⟨g, cap, hhdr, hblk, hz, hin⟩ := row_ints (hR1.st.at_ r ge _ hge h2) h3 hl
 have hnd : o1 = o1 := rfl
 refine call_wp (p := .os r) (R := fun u w' => u = (if back then .slice (some ⟨g, 0, none⟩) l'.length cap else .tuple #[]) ∧ Keeps (· = g) w1 w' ∧ IntsIn w' g e cap l') hR1 hi1 (by simp only [A.val]; exact upd_same _ _ _) hfn (fun v hv => ?_) (fun u w' hu => ?_)
 ·obtain ⟨ge', hge', rfl⟩ := os_inv hv
  rw [hge] at hge'; injection hge' with hge'; subst hge'
  rw [hhdr]
  refine (hC w1 g cap e hin).mono ?_
  rintro ev w' ⟨he, hk, hi⟩
  exact ⟨_, he, rfl, hk, hi⟩
 ·obtain ⟨rfl, hk, hi⟩ := hu
  have hdst : (ops[1]'(by omega)).dst = some tb := hd1.symm
  rw [hdst]
  have hRel : ∃ γ2, Rel X w0 may (a1.put (some tb) (if back then .slice (some ⟨g, 0, none⟩) l'.length cap else .tuple #[])) w' (inplaceSt n fr st log ta tb r e l' back) γ2 := by
   cases back with
   | false =>
     have hll := hl' rfl
     refine ⟨γ1, ents_put (E := ⟨.tup [], [], [], [], [], []⟩) hR1 ?_ rfl (by simpa [Nat.blt_eq] using hb) (by simp [inplaceSt, voidF_nil])⟩
     have h0 := EffOK.write (E := ⟨.junk, [], [], [], [], []⟩) (v := .tuple #[]) (e := .row 0 e 1 l'.length (fl (fun n : Int => [PV.int .i64 n]) l')) hR1.st hge hblk h2 rfl hk (fun _ => ?_) rfl (fun l hl => by cases hl)
     ·exact ⟨.tup [] [] rfl (fun k c u hk => by simp at hk), h0.old, h0.sto, h0.keeps, h0.ownE, h0.box, h0.bld, h0.fix⟩
     ·have := ints_row (X := X) (γ' := γ1) hi
      rw [hll] at this ⊢
      have hge2 : ge = ⟨some g, .slice (some ⟨g, 0, none⟩) l.length cap, 1⟩ := by cases ge; simp_all
      rw [hge2]; exact this
   | true =>
     refine ⟨upd γ1 r ⟨some g, .slice (some ⟨g, 0, none⟩) l'.length cap, 1⟩, ents_put (E := ⟨.os r, [], [], [], [r], []⟩) hR1 ?_ rfl (by simpa [Nat.blt_eq] using hb) (by simp [inplaceSt])⟩
     refine EffOK.app (ge' := ⟨some g, .slice (some ⟨g, 0, none⟩) l'.length cap, 1⟩) hR1.st hR1.hX hge h2 (fun l hl => by cases hl) rfl (hk.mono fun i _ h => by rw [hblk, h]) (fun b hb => .inl (by rw [hblk]; exact hb)) (fun b hb => ?_) (fun _ => ints_row hi) (.os r _ (upd_same _ _ _) rfl rfl)
     ·injection hb with hb; subst hb
      obtain ⟨cur, _, hg, _⟩ := hi
      exact (Array.getElem?_eq_some_iff.1 hg).1
  obtain ⟨γ2, hR2⟩ := hRel
  exact reg_sound (l := num 2 rest) (fun p hp => by
   obtain ⟨hg0, hg⟩ := num_get rest 2 p hp
   have hlt := (List.getElem?_eq_some_iff.1 hg).1
   have ho : ops[p.1]? = some (ops[p.1]'(by omega)) := Array.getElem?_eq_getElem (by omega)
   obtain ⟨x, hx, hco⟩ := hget _ _ ho
   rw [show p.1 = (p.1 - 2) + 2 by omega] at hx
   simp only [List.getElem?_cons_succ] at hx
   rw [hx] at hg
   injection hg with hg; subst hg
   exact ⟨_, ho, hco⟩) hR2 hev hok3 (fun a' w' γ' hR' => ⟨_, _, _, rfl, hQ3, hR'⟩)
end
end Pv
end Go.Proofs.YtdcgnfkkklbckaaGreatDoor
