/- THE DECK: lists of numbers to choose by; what New, Next and Mod compute. -/
import Derived.Test.YtogoplhikmmggaaPv23
import Derived.Test.YtogoplhikmmggaaRows
set_option linter.unusedSimpArgs false
set_option linter.unusedVariables false
namespace Go.Proofs.Ytogoplhikmmggaa
namespace Pv
theorem mix : Try.prog.follows .mixedOrders = true := by kernel_rfl
def c15 : C := (.seq (.reg [⟨(some 4), 64, none, .mv (.c (.int .i64 0))⟩])
  (.seq (.reg [⟨(some 5), 80, none, .mv (.t 0)⟩,
    ⟨(some 6), 96, none, .mv (.t 1)⟩,
    ⟨(some 7), 112, none, .bi false .rem (.t 5) (.t 6)⟩,
    ⟨(some 8), 128, none, .mv (.t 1)⟩,
    ⟨(some 9), 144, none, .bi false .add (.t 7) (.t 8)⟩,
    ⟨(some 10), 160, none, .mv (.t 1)⟩,
    ⟨(some 11), 176, none, .bi false .rem (.t 9) (.t 10)⟩,
    ⟨(some 4), 64, none, .mv (.t 11)⟩])
  .ret))
def c18 : C := (.seq (.reg [⟨(some 4), 64, none, .mv (.c (.int .i64 0))⟩])
  (.seq (.seq (.drw [⟨(some 6), 96, none, .mv (.t 1)⟩,
    ⟨(some 7), 112, none, .bi false .lss (.t 6) (.c (.int .i64 1))⟩,
    ⟨(some 8), 128, none, .mv (.t 7)⟩,
    ⟨(some 9), 144, (some (8, false)), .mv (.t 0)⟩,
    ⟨(some 10), 160, (some (8, false)), .nc (.t 9)⟩,
    ⟨(some 11), 176, (some (8, false)), .fa 1 (.t 10)⟩,
    ⟨(some 12), 192, (some (8, false)), .ld 1 false (.t 11)⟩,
    ⟨(some 13), 208, (some (8, false)), .mv (.t 0)⟩,
    ⟨(some 14), 224, (some (8, false)), .nc (.t 13)⟩,
    ⟨(some 15), 240, (some (8, false)), .fa 0 (.t 14)⟩,
    ⟨(some 16), 256, (some (8, false)), .ld 1 false (.t 15)⟩,
    ⟨(some 17), 272, (some (8, false)), .len (.t 16)⟩,
    ⟨(some 18), 288, (some (8, false)), .bi false .geq (.t 12) (.t 17)⟩,
    ⟨(some 19), 304, none, .pick (.t 8) (.c (.bool true)) (.t 18)⟩]
    [(3, 7, 9), (3, 8, 9), (3, 9, 9), (3, 10, 9), (3, 11, 9), (4, 7, 10), (4, 8, 10), (4, 9, 10), (4, 10, 10), (4, 11, 10), (5, 7, 11), (5, 8, 11), (5, 9, 11), (5, 10, 11), (5, 11, 11), (6, 7, 12), (6, 8, 12), (6, 9, 12), (6, 10, 12), (6, 11, 12)])
  (.cond (.t 19) (.seq (.reg [⟨(some 4), 64, none, .mv (.c (.int .i64 0))⟩])
  .ret) .skip))
  (.seq (.drw [⟨(some 20), 320, none, .mv (.t 0)⟩,
    ⟨(some 21), 336, none, .nc (.t 20)⟩,
    ⟨(some 22), 352, none, .fa 0 (.t 21)⟩,
    ⟨(some 23), 368, none, .ld 1 false (.t 22)⟩,
    ⟨(some 24), 384, none, .mv (.t 0)⟩,
    ⟨(some 25), 400, none, .nc (.t 24)⟩,
    ⟨(some 26), 416, none, .fa 1 (.t 25)⟩,
    ⟨(some 27), 432, none, .ld 1 false (.t 26)⟩,
    ⟨(some 28), 448, none, .ia 1 (.t 23) (.t 27)⟩,
    ⟨(some 29), 464, none, .ld 1 false (.t 28)⟩,
    ⟨(some 5), 80, none, .mv (.t 29)⟩]
    [(0, 4, 20), (0, 5, 20), (0, 6, 20), (0, 7, 20), (1, 4, 21), (1, 5, 21), (1, 6, 21), (1, 7, 21), (2, 4, 22), (2, 5, 22), (2, 6, 22), (2, 7, 22), (3, 4, 23), (3, 5, 23), (3, 6, 23), (3, 7, 23)])
  (.seq (.reg [⟨(some 30), 480, none, .mv (.t 0)⟩,
    ⟨(some 31), 496, none, .nc (.t 30)⟩,
    ⟨(some 32), 512, none, .fa 1 (.t 31)⟩,
    ⟨(some 33), 528, none, .ld 1 false (.t 32)⟩,
    ⟨(some 34), 544, none, .bi false .add (.t 33) (.c (.int .i64 1))⟩,
    ⟨(some 35), 560, none, .nc (.t 30)⟩,
    ⟨(some 36), 576, none, .fa 1 (.t 35)⟩,
    ⟨none, 0, none, .st 1 (.t 36) (.t 34)⟩])
  (.seq (.reg [⟨(some 37), 592, none, .mv (.t 5)⟩,
    ⟨(some 38), 608, none, .mv (.t 1)⟩,
    ⟨(some 39), 624, none, .call (.c (.fn (.func 15) [] [])) [(.t 37), (.t 38)]⟩,
    ⟨(some 4), 64, none, .mv (.t 39)⟩])
  .ret)))))
def c11 : C := (.seq (.reg [⟨(some 2), 32, none, .mv (.c (.raw (.pointer none)))⟩])
  (.seq (.reg [⟨(some 3), 48, none, .mv (.t 0)⟩,
    ⟨(some 4), 64, none, .bd [(.nil 1), (.int .i64 0)] [(0, 1, (.t 3))]⟩,
    ⟨(some 5), 80, none, .bx 2 (.t 4)⟩,
    ⟨(some 2), 32, none, .mv (.t 5)⟩])
  .ret))
theorem fits15 : fits Try.prog false Try.f15 2 12 [(4, none)] = some c15.er := by kernel_rfl
theorem fits18 : fits Try.prog false Try.f18 2 40 [(4, none)] = some c18.er := by kernel_rfl
theorem fits11 : fits Try.prog false Try.f11 1 6 [(2, none)] = some c11.er := by kernel_rfl

theorem bif_t {a b c : Bool} : (bif a then b else c) = true ↔ (a = true ∧ b = true) ∨ (a = false ∧ c = true) := by cases a <;> simp
theorem bif_f {a b c : Bool} : (bif a then b else c) = false ↔ (a = true ∧ b = false) ∨ (a = false ∧ c = false) := by cases a <;> simp
def eInt (n : Int) : List PV := [.int .i64 n]
theorem mod_mod (n k : Int) (hk : 0 < k) : (n.tmod k + k).tmod k = n % k := by
  have h1 : -k < n.tmod k := by
    have := Int.lt_tmod_of_pos n hk; omega
  have h2 : n.tmod k < k := Int.tmod_lt_of_pos n hk
  rw [Int.tmod_eq_emod_of_nonneg (by omega), Int.add_emod_right]
  have := Int.mul_tdiv_add_tmod n k
  rw [← this]
  rw [Int.add_comm (k * _), Int.add_mul_emod_self_left]
  congr 1
  rw [Int.add_comm, this]

theorem call_mod (n k : Int) (hk : 0 < k) (hk2 : k ≤ 4611686018427387904) : PureCall Try.prog 15 [.int .i64 n, .int .i64 k] [] ⟨.int .i64 (n % k), [], []⟩ := by
  refine pure_call mix Try.func15 fits15 rfl ?_
  conv => whnf
  have h1 := Int.lt_tmod_of_pos n hk
  have h2 := Int.tmod_lt_of_pos n hk
  refine ⟨?_, [], ?_⟩
  · (try conv => whnf)
    (repeat' (first | exact True.intro | exact fun _ h => h | refine inR64_of ?_ ?_ | apply And.intro | refine maxLen_ge ?_)) <;> (first | omega | (dsimp only; omega) | (dsimp only [List.length_cons, List.length_nil]; omega) | (intro hg; rw [hg]; rfl) | (intro hg hh; rw [hg, hh]; rfl) | (intro hg; simp [-List.getD_eq_getElem?_getD, -Int.default_eq_zero] at hg; first | omega | (refine inR64_of ?_ ?_ <;> omega) | (constructor <;> omega)) | (simp [-List.getD_eq_getElem?_getD, -Int.default_eq_zero]; done))
  conv => whnf
  refine ⟨rfl, ?_, trivial, trivial⟩
  all_goals repeat' (first | exact True.intro | refine leF_cons rfl ?_ ?_ | refine leS_cons rfl ?_ ?_ | (show PLe _ _ _ _; conv => whnf) | (show SLe _ _ _ _; conv => whnf) | (show PLeL _ _ _ _; conv => whnf) | apply And.intro | rfl | exact Nat.le_refl _ | exact fun _ _ => rfl | exact rowEq0 _ _)
  exact mod_mod n k hk

/-- A deck: numbers, and how many of them are taken. -/
structure Dk where
  l : List Int
  at_ : Nat
  deriving Inhabited
def eDk (τ : Nat) (d : Dk) : List PV := [.sl τ 1 d.l.length (fl eInt d.l), .int .i64 d.at_]
def nxt (d : Dk) (n : Int) : Int := if n < 1 ∨ d.l.length ≤ d.at_ then 0 else d.l.getD d.at_ default % n
def nxtD (d : Dk) (n : Int) : Dk := if n < 1 ∨ d.l.length ≤ d.at_ then d else ⟨d.l, d.at_ + 1⟩
theorem nxtD_len (d : Dk) (n : Int) : (nxtD d n).l = d.l := by unfold nxtD; split <;> rfl
theorem nxtD_at (d : Dk) (n : Int) : (nxtD d n).at_ ≤ d.at_ + 1 := by unfold nxtD; split <;> simp
theorem nxt_rng (d : Dk) (n : Int) : 0 ≤ nxt d n ∧ (nxt d n < n ∨ nxt d n = 0) := by
  unfold nxt; split
  · omega
  · rename_i h
    have h1 : 0 < n := by omega
    exact ⟨Int.emod_nonneg _ (by omega), .inl (Int.emod_lt_of_pos _ h1)⟩
theorem nxt_lt (d : Dk) {n : Int} (h : 0 < n) : 0 ≤ nxt d n ∧ nxt d n < n := by
  have := nxt_rng d n; omega

theorem call_next (τ : Nat) (d : Dk) (n : Int) (hd : d.at_ ≤ 1000000000) (hn : n ≤ 4611686018427387904) : PureCall Try.prog 18 [.pt 0 0 0, .int .i64 n] [.box (eDk τ d)] ⟨.int .i64 (nxt d n), [.box (eDk τ (nxtD d n))], []⟩ := by
  refine pure_call mix Try.func18 fits18 rfl ?_
  conv => whnf
  refine ⟨rfl, ?_⟩
  conv => whnf
  refine ⟨?_, fun hc => ?_, fun hc => ?_⟩
  · (try conv => whnf)
    (repeat' (first | exact True.intro | exact fun _ h => h | refine inR64_of ?_ ?_ | apply And.intro | refine maxLen_ge ?_)) <;> (first | omega | (dsimp only; omega) | (dsimp only [List.length_cons, List.length_nil]; omega) | (intro hg; rw [hg]; rfl) | (intro hg hh; rw [hg, hh]; rfl) | (intro hg; simp [-List.getD_eq_getElem?_getD, -Int.default_eq_zero] at hg; first | omega | (refine inR64_of ?_ ?_ <;> omega) | (constructor <;> omega)) | (simp [-List.getD_eq_getElem?_getD, -Int.default_eq_zero]; done))
  · simp [-List.getD_eq_getElem?_getD, -Int.default_eq_zero] at hc
    have hc' : n < 1 ∨ d.l.length ≤ d.at_ := by omega
    rw [show nxt d n = 0 from if_pos hc', show nxtD d n = d from if_pos hc']
    conv => whnf
    refine ⟨?_, [], ?_⟩
    · (try conv => whnf)
      (repeat' (first | exact True.intro | exact fun _ h => h | refine inR64_of ?_ ?_ | apply And.intro | refine maxLen_ge ?_)) <;> (first | omega | (dsimp only; omega) | (dsimp only [List.length_cons, List.length_nil]; omega) | (intro hg; rw [hg]; rfl) | (intro hg hh; rw [hg, hh]; rfl) | (intro hg; simp [-List.getD_eq_getElem?_getD, -Int.default_eq_zero] at hg; first | omega | (refine inR64_of ?_ ?_ <;> omega) | (constructor <;> omega)) | (simp [-List.getD_eq_getElem?_getD, -Int.default_eq_zero]; done))
    conv => whnf
    refine ⟨rfl, ?_, ?_, trivial⟩
    all_goals repeat' (first | exact True.intro | refine leF_cons rfl ?_ ?_ | refine leS_cons rfl ?_ ?_ | (show PLe _ _ _ _; conv => whnf) | (show SLe _ _ _ _; conv => whnf) | (show PLeL _ _ _ _; conv => whnf) | apply And.intro | rfl | exact Nat.le_refl _ | exact fun _ _ => rfl | exact rowEq0 _ _)
  · simp [-List.getD_eq_getElem?_getD, -Int.default_eq_zero] at hc
    have hc' : ¬ (n < 1 ∨ d.l.length ≤ d.at_) := by omega
    rw [show nxt d n = d.l.getD d.at_ default % n from if_neg hc', show nxtD d n = ⟨d.l, d.at_ + 1⟩ from if_neg hc']
    conv => whnf
    refine ⟨rfl, ?_⟩
    conv => whnf
    refine ⟨_, fun _ => call_mod (d.l.getD ((d.at_ : Int)).toNat default) n (by omega) hn, ?_⟩
    conv => whnf
    refine ⟨?_, [], ?_⟩
    · (try conv => whnf)
      (repeat' (first | exact True.intro | exact fun _ h => h | refine inR64_of ?_ ?_ | apply And.intro | refine maxLen_ge ?_)) <;> (first | omega | (dsimp only; omega) | (dsimp only [List.length_cons, List.length_nil]; omega) | (intro hg; rw [hg]; rfl) | (intro hg hh; rw [hg, hh]; rfl) | (intro hg; simp [-List.getD_eq_getElem?_getD, -Int.default_eq_zero] at hg; first | omega | (refine inR64_of ?_ ?_ <;> omega) | (constructor <;> omega)) | (simp [-List.getD_eq_getElem?_getD, -Int.default_eq_zero]; done))
    conv => whnf
    refine ⟨rfl, ?_, ?_, trivial⟩
    all_goals repeat' (first | exact True.intro | refine leF_cons rfl ?_ ?_ | refine leS_cons rfl ?_ ?_ | (show PLe _ _ _ _; conv => whnf) | (show SLe _ _ _ _; conv => whnf) | (show PLeL _ _ _ _; conv => whnf) | apply And.intro | rfl | exact Nat.le_refl _ | exact fun _ _ => rfl | exact rowEq0 _ _)

theorem call_new (τ : Nat) (l : List Int) : PureCall Try.prog 11 [.sl τ 1 l.length (fl eInt l)] [] ⟨.pt 1000000000 0 0, [], [.box (eDk τ ⟨l, 0⟩)]⟩ := by
  refine pure_call mix Try.func11 fits11 rfl ?_
  conv => whnf
  refine ⟨trivial, [80], ?_⟩
  conv => whnf
  refine ⟨rfl, ?_, trivial, ?_⟩
  all_goals repeat' (first | exact True.intro | refine leF_cons rfl ?_ ?_ | refine leS_cons rfl ?_ ?_ | (show PLe _ _ _ _; conv => whnf) | (show SLe _ _ _ _; conv => whnf) | (show PLeL _ _ _ _; conv => whnf) | apply And.intro | rfl | exact Nat.le_refl _ | exact fun _ _ => rfl | exact rowEq0 _ _)

end Pv
end Go.Proofs.Ytogoplhikmmggaa
