/- CALLS THAT WRITE INTO A SLICE OF THE CALLER's OWN (numbers, one cell each): a rule for a region that begins with one. -/
import Derived.Test.YtafnkpmoolbjjaaDoorZee
import Derived.Test.YtafnkpmoolbjjaaDoorRows
/- THE DECK: lists of numbers to choose by; what New, Next and Mod compute. -/
set_option linter.unusedSimpArgs false
set_option linter.unusedVariables false
namespace Go.Proofs.YtafnkpmoolbjjaaDoor
namespace Pv
theorem mix : Tryd.prog.follows .mixedOrders = true := by kernel_rfl
def c41 : C := (.seq (.reg [⟨(some 4), 64, none, .mv (.c (.int .i64 0))⟩])
  (.seq (.reg [⟨(some 5), 80, none, .mv (.t 0)⟩,
    ⟨(some 6), 96, none, .mv (.t 1)⟩,
    ⟨(some 7), 112, none, .bi false .rem (.t 5) (.t 6)⟩,
    ⟨(some 8), 128, none, .mv (.t 1)⟩,
    ⟨(some 9), 144, none, .bi false .add (.t 7) (.t 8)⟩,
    ⟨(some 10), 160, none, .mv (.t 1)⟩,
    ⟨(some 11), 176, none, .bi false .rem (.t 9) (.t 10)⟩,
    ⟨(some 4), 64, none, .mv (.t 11)⟩])
  .ret))
def c26 : C := (.seq (.reg [⟨(some 4), 64, none, .mv (.c (.int .i64 0))⟩])
  (.seq (.seq (.drw [⟨(some 6), 96, none, .mv (.t 1)⟩,
    ⟨(some 7), 112, none, .bi false .lss (.t 6) (.c (.int .i64 1))⟩,
    ⟨(some 8), 128, none, .mv (.t 7)⟩,
    ⟨(some 9), 144, (some (8, false)), .mv (.t 0)⟩,
    ⟨(some 10), 160, (some (8, false)), .nc (.t 9)⟩,
    ⟨(some 11), 176, (some (8, false)), .fa 1 (.t 10)⟩,
    ⟨(some 12), 192, (some (8, false)), .ld 1 false (.t 11)⟩,
    ⟨(some 13), 208, (some (8, false)), .mv (.t 0)⟩,
    ⟨(some 14), 224, (some (8, false)), .nc (.t 13)⟩,
    ⟨(some 15), 240, (some (8, false)), .fa 0 (.t 14)⟩,
    ⟨(some 16), 256, (some (8, false)), .ld 1 false (.t 15)⟩,
    ⟨(some 17), 272, (some (8, false)), .len (.t 16)⟩,
    ⟨(some 18), 288, (some (8, false)), .bi false .geq (.t 12) (.t 17)⟩,
    ⟨(some 19), 304, none, .pick (.t 8) (.c (.bool true)) (.t 18)⟩]
    [(3, 7, 9), (3, 8, 9), (3, 9, 9), (3, 10, 9), (3, 11, 9), (4, 7, 10), (4, 8, 10), (4, 9, 10), (4, 10, 10), (4, 11, 10), (5, 7, 11), (5, 8, 11), (5, 9, 11), (5, 10, 11), (5, 11, 11), (6, 7, 12), (6, 8, 12), (6, 9, 12), (6, 10, 12), (6, 11, 12)])
  (.cond (.t 19) (.seq (.reg [⟨(some 4), 64, none, .mv (.c (.int .i64 0))⟩])
  .ret) .skip))
  (.seq (.drw [⟨(some 20), 320, none, .mv (.t 0)⟩,
    ⟨(some 21), 336, none, .nc (.t 20)⟩,
    ⟨(some 22), 352, none, .fa 0 (.t 21)⟩,
    ⟨(some 23), 368, none, .ld 1 false (.t 22)⟩,
    ⟨(some 24), 384, none, .mv (.t 0)⟩,
    ⟨(some 25), 400, none, .nc (.t 24)⟩,
    ⟨(some 26), 416, none, .fa 1 (.t 25)⟩,
    ⟨(some 27), 432, none, .ld 1 false (.t 26)⟩,
    ⟨(some 28), 448, none, .ia 1 (.t 23) (.t 27)⟩,
    ⟨(some 29), 464, none, .ld 1 false (.t 28)⟩,
    ⟨(some 5), 80, none, .mv (.t 29)⟩]
    [(0, 4, 20), (0, 5, 20), (0, 6, 20), (0, 7, 20), (1, 4, 21), (1, 5, 21), (1, 6, 21), (1, 7, 21), (2, 4, 22), (2, 5, 22), (2, 6, 22), (2, 7, 22), (3, 4, 23), (3, 5, 23), (3, 6, 23), (3, 7, 23)])
  (.seq (.reg [⟨(some 30), 480, none, .mv (.t 0)⟩,
    ⟨(some 31), 496, none, .nc (.t 30)⟩,
    ⟨(some 32), 512, none, .fa 1 (.t 31)⟩,
    ⟨(some 33), 528, none, .ld 1 false (.t 32)⟩,
    ⟨(some 34), 544, none, .bi false .add (.t 33) (.c (.int .i64 1))⟩,
    ⟨(some 35), 560, none, .nc (.t 30)⟩,
    ⟨(some 36), 576, none, .fa 1 (.t 35)⟩,
    ⟨none, 0, none, .st 1 (.t 36) (.t 34)⟩])
  (.seq (.reg [⟨(some 37), 592, none, .mv (.t 5)⟩,
    ⟨(some 38), 608, none, .mv (.t 1)⟩,
    ⟨(some 39), 624, none, .call (.c (.fn (.func 41) [] [])) [(.t 37), (.t 38)]⟩,
    ⟨(some 4), 64, none, .mv (.t 39)⟩])
  .ret)))))
def c10 : C := (.seq (.reg [⟨(some 2), 32, none, .mv (.c (.raw (.pointer none)))⟩])
  (.seq (.reg [⟨(some 3), 48, none, .mv (.t 0)⟩,
    ⟨(some 4), 64, none, .bd [(.nil 1), (.int .i64 0)] [(0, 1, (.t 3))]⟩,
    ⟨(some 5), 80, none, .bx 2 (.t 4)⟩,
    ⟨(some 2), 32, none, .mv (.t 5)⟩])
  .ret))
theorem fits41 : fits Tryd.prog false Tryd.f41 2 12 [(4, none)] = some c41.er := by kernel_rfl
theorem fits26 : fits Tryd.prog false Tryd.f26 2 40 [(4, none)] = some c26.er := by kernel_rfl
theorem fits10 : fits Tryd.prog false Tryd.f10 1 6 [(2, none)] = some c10.er := by kernel_rfl
theorem bif_t {a b c : Bool} : (bif a then b else c) = true ↔ (a = true ∧ b = true) ∨ (a = false ∧ c = true) := by cases a <;> simp
theorem bif_f {a b c : Bool} : (bif a then b else c) = false ↔ (a = true ∧ b = false) ∨ (a = false ∧ c = false) := by cases a <;> simp
def eInt (n : Int) : List PV := [.int .i64 n]
theorem mod_mod (n k : Int) (hk : 0 < k) : (n.tmod k + k).tmod k = n % k := by
  have h1 : -k < n.tmod k := by
    have := Int.lt_tmod_of_pos n hk; omega
  have h2 : n.tmod k < k := Int.tmod_lt_of_pos n hk
  rw [Int.tmod_eq_emod_of_nonneg (by omega), Int.add_emod_right]
  have := Int.mul_tdiv_add_tmod n k
  rw [← this]
  rw [Int.add_comm (k * _), Int.add_mul_emod_self_left]
  congr 1
  rw [Int.add_comm, this]
theorem call_mod (n k : Int) (hk : 0 < k) (hk2 : k ≤ 4611686018427387904) : PureCall Tryd.prog 41 [.int .i64 n, .int .i64 k] [] ⟨.int .i64 (n % k), [], []⟩ := by
  refine pure_call mix Tryd.func41 fits41 rfl ?_
  conv => whnf
  have h1 := Int.lt_tmod_of_pos n hk
  have h2 := Int.tmod_lt_of_pos n hk
  refine ⟨?_, [], ?_⟩
  · (try conv => whnf)
    (repeat' (first | exact True.intro | exact fun _ h => h | refine inR64_of ?_ ?_ | apply And.intro | refine maxLen_ge ?_)) <;> (first | omega | decide | (dsimp only; omega) | (dsimp only [List.length_cons, List.length_nil]; omega) | (intro hg; rw [hg]; rfl) | (intro hg hh; rw [hg, hh]; rfl) | (intro hg; simp [-List.getD_eq_getElem?_getD, -Int.default_eq_zero] at hg; first | omega | (refine inR64_of ?_ ?_ <;> omega) | (constructor <;> omega)) | (simp [-List.getD_eq_getElem?_getD, -Int.default_eq_zero]; done))
  conv => whnf
  refine ⟨rfl, ?_, trivial, trivial⟩
  all_goals repeat' (first | exact True.intro | refine leF_cons rfl ?_ ?_ | refine leS_cons rfl ?_ ?_ | (show PLe _ _ _ _; conv => whnf) | (show SLe _ _ _ _; conv => whnf) | (show PLeL _ _ _ _; conv => whnf) | apply And.intro | rfl | exact Nat.le_refl _ | exact fun _ _ => rfl | exact rowEq0 _ _)
  exact mod_mod n k hk
structure Dk where
  l : List Int
  at_ : Nat
  deriving Inhabited
def eDk (τ : Nat) (d : Dk) : List PV := [.sl τ 1 d.l.length (fl eInt d.l), .int .i64 d.at_]
def nxt (d : Dk) (n : Int) : Int := if n < 1 ∨ d.l.length ≤ d.at_ then 0 else d.l.getD d.at_ default % n
def nxtD (d : Dk) (n : Int) : Dk := if n < 1 ∨ d.l.length ≤ d.at_ then d else ⟨d.l, d.at_ + 1⟩
theorem nxtD_len (d : Dk) (n : Int) : (nxtD d n).l = d.l := by unfold nxtD; split <;> rfl
theorem nxtD_at (d : Dk) (n : Int) : (nxtD d n).at_ ≤ d.at_ + 1 := by unfold nxtD; split <;> simp
theorem nxt_rng (d : Dk) (n : Int) : 0 ≤ nxt d n ∧ (nxt d n < n ∨ nxt d n = 0) := by
  unfold nxt; split
  · omega
  · rename_i h
    have h1 : 0 < n := by omega
    exact ⟨Int.emod_nonneg _ (by omega), .inl (Int.emod_lt_of_pos _ h1)⟩
theorem nxt_lt (d : Dk) {n : Int} (h : 0 < n) : 0 ≤ nxt d n ∧ nxt d n < n := by
  have := nxt_rng d n; omega
theorem call_next (τ : Nat) (d : Dk) (n : Int) (hd : d.at_ ≤ 1000000000) (hn : n ≤ 4611686018427387904) : PureCall Tryd.prog 26 [.pt 0 0 0, .int .i64 n] [.box (eDk τ d)] ⟨.int .i64 (nxt d n), [.box (eDk τ (nxtD d n))], []⟩ := by
  refine pure_call mix Tryd.func26 fits26 rfl ?_
  conv => whnf
  refine ⟨rfl, ?_⟩
  conv => whnf
  refine ⟨?_, fun hc => ?_, fun hc => ?_⟩
  · (try conv => whnf)
    (repeat' (first | exact True.intro | exact fun _ h => h | refine inR64_of ?_ ?_ | apply And.intro | refine maxLen_ge ?_)) <;> (first | omega | decide | (dsimp only; omega) | (dsimp only [List.length_cons, List.length_nil]; omega) | (intro hg; rw [hg]; rfl) | (intro hg hh; rw [hg, hh]; rfl) | (intro hg; simp [-List.getD_eq_getElem?_getD, -Int.default_eq_zero] at hg; first | omega | (refine inR64_of ?_ ?_ <;> omega) | (constructor <;> omega)) | (simp [-List.getD_eq_getElem?_getD, -Int.default_eq_zero]; done))
  · simp [-List.getD_eq_getElem?_getD, -Int.default_eq_zero] at hc
    have hc' : n < 1 ∨ d.l.length ≤ d.at_ := by omega
    rw [show nxt d n = 0 from if_pos hc', show nxtD d n = d from if_pos hc']
    conv => whnf
    refine ⟨?_, [], ?_⟩
    · (try conv => whnf)
      (repeat' (first | exact True.intro | exact fun _ h => h | refine inR64_of ?_ ?_ | apply And.intro | refine maxLen_ge ?_)) <;> (first | omega | decide | (dsimp only; omega) | (dsimp only [List.length_cons, List.length_nil]; omega) | (intro hg; rw [hg]; rfl) | (intro hg hh; rw [hg, hh]; rfl) | (intro hg; simp [-List.getD_eq_getElem?_getD, -Int.default_eq_zero] at hg; first | omega | (refine inR64_of ?_ ?_ <;> omega) | (constructor <;> omega)) | (simp [-List.getD_eq_getElem?_getD, -Int.default_eq_zero]; done))
    conv => whnf
    refine ⟨rfl, ?_, ?_, trivial⟩
    all_goals repeat' (first | exact True.intro | refine leF_cons rfl ?_ ?_ | refine leS_cons rfl ?_ ?_ | (show PLe _ _ _ _; conv => whnf) | (show SLe _ _ _ _; conv => whnf) | (show PLeL _ _ _ _; conv => whnf) | apply And.intro | rfl | exact Nat.le_refl _ | exact fun _ _ => rfl | exact rowEq0 _ _)
  · simp [-List.getD_eq_getElem?_getD, -Int.default_eq_zero] at hc
    have hc' : ¬ (n < 1 ∨ d.l.length ≤ d.at_) := by omega
    rw [show nxt d n = d.l.getD d.at_ default % n from if_neg hc', show nxtD d n = ⟨d.l, d.at_ + 1⟩ from if_neg hc']
    conv => whnf
    refine ⟨rfl, ?_⟩
    conv => whnf
    refine ⟨_, fun _ => call_mod (d.l.getD ((d.at_ : Int)).toNat default) n (by omega) hn, ?_⟩
    conv => whnf
    refine ⟨?_, [], ?_⟩
    · (try conv => whnf)
      (repeat' (first | exact True.intro | exact fun _ h => h | refine inR64_of ?_ ?_ | apply And.intro | refine maxLen_ge ?_)) <;> (first | omega | decide | (dsimp only; omega) | (dsimp only [List.length_cons, List.length_nil]; omega) | (intro hg; rw [hg]; rfl) | (intro hg hh; rw [hg, hh]; rfl) | (intro hg; simp [-List.getD_eq_getElem?_getD, -Int.default_eq_zero] at hg; first | omega | (refine inR64_of ?_ ?_ <;> omega) | (constructor <;> omega)) | (simp [-List.getD_eq_getElem?_getD, -Int.default_eq_zero]; done))
    conv => whnf
    refine ⟨rfl, ?_, ?_, trivial⟩
    all_goals repeat' (first | exact True.intro | refine leF_cons rfl ?_ ?_ | refine leS_cons rfl ?_ ?_ | (show PLe _ _ _ _; conv => whnf) | (show SLe _ _ _ _; conv => whnf) | (show PLeL _ _ _ _; conv => whnf) | apply And.intro | rfl | exact Nat.le_refl _ | exact fun _ _ => rfl | exact rowEq0 _ _)
theorem call_new (τ : Nat) (l : List Int) : PureCall Tryd.prog 10 [.sl τ 1 l.length (fl eInt l)] [] ⟨.pt 1000000000 0 0, [], [.box (eDk τ ⟨l, 0⟩)]⟩ := by
  refine pure_call mix Tryd.func10 fits10 rfl ?_
  conv => whnf
  refine ⟨trivial, [80], ?_⟩
  conv => whnf
  refine ⟨rfl, ?_, trivial, ?_⟩
  all_goals repeat' (first | exact True.intro | refine leF_cons rfl ?_ ?_ | refine leS_cons rfl ?_ ?_ | (show PLe _ _ _ _; conv => whnf) | (show SLe _ _ _ _; conv => whnf) | (show PLeL _ _ _ _; conv => whnf) | apply And.intro | rfl | exact Nat.le_refl _ | exact fun _ _ => rfl | exact rowEq0 _ _)
end Pv
end Go.Proofs.YtafnkpmoolbjjaaDoor
/- LAW 42, THE WALKS: violations. -/
set_option linter.unusedSimpArgs false
set_option linter.unusedVariables false
namespace Go.Proofs.YtafnkpmoolbjjaaDoor
namespace Pv
def c8 : C := (.seq (.reg [⟨(some 2), 32, none, .mv (.c (.bool false))⟩])
  (.seq (.reg [⟨(some 3), 48, none, .mv (.t 0)⟩,
    ⟨(some 4), 64, none, .len (.t 3)⟩,
    ⟨(some 5), 80, none, .bi false .leq (.t 4) (.c (.int .i64 500))⟩,
    ⟨(some 2), 32, none, .mv (.t 5)⟩])
  .ret))
theorem fits8 : fits Tryd.prog false Tryd.f8 1 6 [(2, none)] = some c8.er := by kernel_rfl
def c14L1 : C := (.seq (.reg [⟨(some 14), 224, none, .bi false .lss (.t 13) (.t 12)⟩])
  (.seq (.cond (.t 14) .skip (.exit 0))
  (.seq (.block 1 (.seq (.reg [⟨(some 15), 240, none, .mv (.t 13)⟩,
    ⟨(some 5), 80, none, .mv (.t 15)⟩])
  (.seq (.drw [⟨(some 16), 256, none, .mv (.t 0)⟩,
    ⟨(some 17), 272, none, .mv (.t 5)⟩,
    ⟨(some 18), 288, none, .ia 4 (.t 16) (.t 17)⟩,
    ⟨(some 19), 304, none, .ld 4 true (.t 18)⟩,
    ⟨(some 20), 320, none, .mv (.t 1)⟩,
    ⟨(some 21), 336, none, .mv (.t 5)⟩,
    ⟨(some 22), 352, none, .ia 4 (.t 20) (.t 21)⟩,
    ⟨(some 23), 368, none, .ld 4 true (.t 22)⟩,
    ⟨(some 24), 384, none, .eqa true [0, 0, 0, 0] (.t 19) (.t 23)⟩]
    [(0, 1, 16), (0, 4, 16), (0, 5, 16), (0, 6, 16), (0, 7, 16), (1, 4, 17), (1, 5, 17), (1, 6, 17), (1, 7, 17), (2, 4, 18), (2, 5, 18), (2, 6, 18), (2, 7, 18), (3, 4, 19), (3, 5, 19), (3, 6, 19), (3, 7, 19), (4, 5, 20)])
  (.cond (.t 24) (.seq (.reg [⟨(some 4), 64, none, .mv (.c (.bool false))⟩])
  .ret) .skip))))
  (.reg [⟨(some 25), 400, none, .bi false .add (.t 13) (.c (.int .i64 1))⟩,
    ⟨(some 13), 208, none, .mv (.t 25)⟩]))))
def c14 : C := (.seq (.reg [⟨(some 4), 64, none, .mv (.c (.bool false))⟩])
  (.seq (.seq (.reg [⟨(some 6), 96, none, .mv (.t 0)⟩,
    ⟨(some 7), 112, none, .len (.t 6)⟩,
    ⟨(some 8), 128, none, .mv (.t 1)⟩,
    ⟨(some 9), 144, none, .len (.t 8)⟩,
    ⟨(some 10), 160, none, .bi false .neq (.t 7) (.t 9)⟩])
  (.cond (.t 10) (.seq (.reg [⟨(some 4), 64, none, .mv (.c (.bool false))⟩])
  .ret) .skip))
  (.seq (.seq (.reg [⟨(some 11), 176, none, .mv (.t 0)⟩,
    ⟨(some 12), 192, none, .len (.t 11)⟩,
    ⟨(some 13), 208, none, .mv (.c (.int .i64 0))⟩])
  (.block 0 (.loop c14L1)))
  (.seq (.reg [⟨(some 4), 64, none, .mv (.c (.bool true))⟩])
  .ret))))
theorem fits14 : fits Tryd.prog false Tryd.f14 2 26 [(4, none)] = some c14.er := by kernel_rfl
def c17L1 : C := (.seq (.reg [⟨(some 12), 192, none, .bi false .lss (.t 11) (.t 10)⟩])
  (.seq (.cond (.t 12) .skip (.exit 0))
  (.seq (.block 1 (.seq (.reg [⟨(some 13), 208, none, .ia 4 (.t 9) (.t 11)⟩,
    ⟨(some 14), 224, none, .ld 4 true (.t 13)⟩,
    ⟨(some 8), 128, none, .al [(.int .i64 0), (.int .i64 0), (.int .i64 0), (.int .i64 0)]⟩,
    ⟨none, 0, none, .st 4 (.t 8) (.t 14)⟩])
  (.seq (.reg [⟨(some 15), 240, none, .fa 1 (.t 8)⟩,
    ⟨(some 16), 256, none, .ld 1 false (.t 15)⟩,
    ⟨(some 17), 272, none, .fa 1 (.t 4)⟩,
    ⟨(some 18), 288, none, .ld 1 false (.t 17)⟩,
    ⟨(some 19), 304, none, .bi false .eql (.t 16) (.t 18)⟩,
    ⟨(some 20), 320, none, .mv (.t 19)⟩,
    ⟨(some 21), 336, (some (20, true)), .fa 2 (.t 8)⟩,
    ⟨(some 22), 352, (some (20, true)), .ld 1 false (.t 21)⟩,
    ⟨(some 23), 368, (some (20, true)), .fa 2 (.t 4)⟩,
    ⟨(some 24), 384, (some (20, true)), .ld 1 false (.t 23)⟩,
    ⟨(some 25), 400, (some (20, true)), .bi false .eql (.t 22) (.t 24)⟩,
    ⟨(some 26), 416, none, .pick (.t 20) (.t 25) (.c (.bool false))⟩,
    ⟨(some 27), 432, none, .mv (.t 26)⟩,
    ⟨(some 28), 448, (some (27, true)), .fa 0 (.t 8)⟩,
    ⟨(some 29), 464, (some (27, true)), .ld 1 false (.t 28)⟩,
    ⟨(some 30), 480, (some (27, true)), .mv (.t 2)⟩,
    ⟨(some 31), 496, (some (27, true)), .bi false .eql (.t 29) (.t 30)⟩,
    ⟨(some 32), 512, none, .pick (.t 27) (.t 31) (.c (.bool false))⟩])
  (.cond (.t 32) (.seq (.reg [⟨(some 6), 96, none, .mv (.c (.bool true))⟩])
  .ret) .skip))))
  (.reg [⟨(some 33), 528, none, .bi false .add (.t 11) (.c (.int .i64 1))⟩,
    ⟨(some 11), 176, none, .mv (.t 33)⟩]))))
def c17 : C := (.seq (.reg [⟨(some 4), 64, none, .bx 4 (.t 1)⟩,
    ⟨(some 6), 96, none, .mv (.c (.bool false))⟩])
  (.seq (.seq (.reg [⟨(some 9), 144, none, .mv (.t 0)⟩,
    ⟨(some 10), 160, none, .len (.t 9)⟩,
    ⟨(some 11), 176, none, .mv (.c (.int .i64 0))⟩])
  (.block 0 (.loop c17L1)))
  (.seq (.reg [⟨(some 6), 96, none, .mv (.c (.bool false))⟩])
  .ret)))
theorem fits17 : fits Tryd.prog false Tryd.f17 3 34 [(6, none)] = some c17.er := by kernel_rfl
structure Vi where
  t : Int
  s : Int
  c : Int
  b : Int
  deriving DecidableEq
instance : Inhabited Vi := ⟨⟨0, 0, 0, 0⟩⟩
def eVi (r : Vi) : List PV := [.int .i64 r.t, .int .i64 r.s, .int .i64 r.c, .int .i64 r.b]
def atV (t s c : Int) (v : Vi) : Bool := bif bif v.s == s then v.c == c else false then v.t == t else false
def inV (l : List Vi) (t s c : Int) : Bool := l.any (atV t s c)
set_option maxRecDepth 100000 in
theorem call8 (τ : Nat) (l : List Int) : PureCall Tryd.prog 8 [.sl τ 1 l.length (fl eInt l)] [] ⟨.bool (decide ((l.length : Int) ≤ 500)), [], []⟩ := by
  refine pure_call mix Tryd.func8 fits8 rfl ?_
  conv => whnf
  refine ⟨?_, [], ?_⟩
  · (try conv => whnf)
    (repeat' (first | exact True.intro | exact fun _ h => h | refine inR64_of ?_ ?_ | apply And.intro | refine maxLen_ge ?_)) <;> (first | omega | (dsimp only; omega))
  conv => whnf
  refine ⟨rfl, ?_, trivial, trivial⟩
  all_goals repeat' (first | exact True.intro | refine leF_cons rfl ?_ ?_ | refine leS_cons rfl ?_ ?_ | (show PLe _ _ _ _; conv => whnf) | (show SLe _ _ _ _; conv => whnf) | (show PLeL _ _ _ _; conv => whnf) | apply And.intro | rfl | exact Nat.le_refl _ | exact fun _ _ => rfl | exact rowEq0 _ _)
theorem getD_extV {l m : List Vi} (h : l.length = m.length) (ha : ∀ j, j < l.length → l.getD j default = m.getD j default) : l = m := by
  refine List.ext_getElem h fun j h1 h2 => ?_
  have := ha j h1
  simpa [List.getD, h1, h2] using this
theorem vi_ne {a b : Vi} (h : (!((a.t == b.t) && ((a.s == b.s) && ((a.c == b.c) && ((a.b == b.b) && true))))) = false) : a = b := by
  cases a; cases b; simp at h; simp [h]
theorem vi_ne2 {a b : Vi} (h : (!((a.t == b.t) && ((a.s == b.s) && ((a.c == b.c) && ((a.b == b.b) && true))))) = true) : a ≠ b := fun e => by subst e; simp at h
set_option maxRecDepth 100000 in
set_option maxHeartbeats 4000000 in
theorem call14 (τ τ' : Nat) (l m : List Vi) (hl : l.length ≤ 4611686018427387904) : PureCall Tryd.prog 14 [.sl τ 4 l.length (fl eVi l), .sl τ' 4 m.length (fl eVi m)] [] ⟨.bool (decide (l = m)), [], []⟩ := by
  refine pure_call mix Tryd.func14 fits14 rfl ?_
  conv => whnf
  refine ⟨?_, fun hc => ?_, fun hc => ?_⟩
  · (try conv => whnf)
    (repeat' (first | exact True.intro | exact fun _ h => h | refine inR64_of ?_ ?_ | apply And.intro | refine maxLen_ge ?_)) <;> (first | omega | (dsimp only; omega))
  · simp only [bif_t, bif_f, decide_eq_true_eq, decide_eq_false_iff_not, Bool.not_eq_true', Bool.not_eq_false', Bool.and_eq_true, Bool.or_eq_true, Bool.and_eq_false_iff, Bool.or_eq_false_iff, beq_iff_eq, bne_iff_ne, beq_eq_false_iff_ne, bne_eq_false_iff_eq, reduceCtorEq, false_and, and_false, true_and, and_true, or_false, false_or, or_true, true_or, not_true_eq_false, not_false_eq_true, Int.toNat_zero] at hc
    rw [decide_eq_false (p := l = m) (fun e => by rw [e] at hc; omega)]
    conv => whnf
    refine ⟨?_, [], ?_⟩
    · (try conv => whnf)
      (repeat' (first | exact True.intro | exact fun _ h => h | refine inR64_of ?_ ?_ | apply And.intro | refine maxLen_ge ?_)) <;> (first | omega | (dsimp only; omega))
    conv => whnf
    refine ⟨rfl, ?_, trivial, trivial⟩
    all_goals repeat' (first | exact True.intro | refine leF_cons rfl ?_ ?_ | refine leS_cons rfl ?_ ?_ | (show PLe _ _ _ _; conv => whnf) | (show SLe _ _ _ _; conv => whnf) | (show PLeL _ _ _ _; conv => whnf) | apply And.intro | rfl | exact Nat.le_refl _ | exact fun _ _ => rfl | exact rowEq0 _ _)
  simp only [bif_t, bif_f, decide_eq_true_eq, decide_eq_false_iff_not, Bool.not_eq_true', Bool.not_eq_false', Bool.and_eq_true, Bool.or_eq_true, Bool.and_eq_false_iff, Bool.or_eq_false_iff, beq_iff_eq, bne_iff_ne, beq_eq_false_iff_ne, bne_eq_false_iff_eq, reduceCtorEq, false_and, and_false, true_and, and_true, or_false, false_or, or_true, true_or, not_true_eq_false, not_false_eq_true, Int.toNat_zero] at hc
  have hlm : l.length = m.length := by omega
  conv => whnf
  refine ⟨trivial, ?_⟩
  refine LSem.loop (n := 26) mix (α := Nat) (fun i => i ≤ l.length ∧ ∀ j, j < i → l.getD j default = m.getD j default)
    (fun i => [(0, .sl τ 4 l.length (fl eVi l)), (1, .sl τ' 4 m.length (fl eVi m)), (12, .int .i64 l.length), (13, .int .i64 i)])
    (fun i => []) (fun i => l.length - i) 0 ?_ ?_ ?_
  · exact ⟨Nat.zero_le _, fun j hj => by omega⟩
  · refine ⟨rfl, rfl, ?_, ?_⟩
    all_goals repeat' (first | exact True.intro | refine leF_cons rfl ?_ ?_ | refine leS_cons rfl ?_ ?_ | (show PLe _ _ _ _; conv => whnf) | (show SLe _ _ _ _; conv => whnf) | (show PLeL _ _ _ _; conv => whnf) | apply And.intro | rfl | exact Nat.le_refl _ | exact fun _ _ => rfl | exact rowEq0 _ _)
  · intro i hi
    obtain ⟨hi, hall⟩ := hi
    have hj : ((i : Int)).toNat = i := by omega
    conv => whnf
    refine ⟨trivial, fun hc2 => ?_, fun hc2 => ?_⟩
    · replace hc2 := of_decide_eq_true hc2
      have hlt : i < l.length := by
        have h : (i : Int) < l.length := hc2
        omega
      conv => whnf
      refine ⟨rfl, ?_⟩
      conv => whnf
      rw [hj]
      refine ⟨?_, fun h1 => ?_, fun h1 => ?_⟩
      · (try conv => whnf)
        (repeat' (first | exact True.intro | exact fun _ h => h | refine inR64_of ?_ ?_ | apply And.intro | refine maxLen_ge ?_)) <;> (first | omega | (dsimp only; omega))
      · have hne := vi_ne2 h1
        rw [decide_eq_false (p := l = m) (fun e => hne (by rw [e]))]
        conv => whnf
        refine ⟨?_, [], ?_⟩
        · (try conv => whnf)
          (repeat' (first | exact True.intro | exact fun _ h => h | refine inR64_of ?_ ?_ | apply And.intro | refine maxLen_ge ?_)) <;> (first | omega | (dsimp only; omega))
        conv => whnf
        refine ⟨rfl, ?_, trivial, trivial⟩
        all_goals repeat' (first | exact True.intro | refine leF_cons rfl ?_ ?_ | refine leS_cons rfl ?_ ?_ | (show PLe _ _ _ _; conv => whnf) | (show SLe _ _ _ _; conv => whnf) | (show PLeL _ _ _ _; conv => whnf) | apply And.intro | rfl | exact Nat.le_refl _ | exact fun _ _ => rfl | exact rowEq0 _ _)
      · have hne := vi_ne h1
        conv => whnf
        refine ⟨?_, i + 1, ⟨hlt, fun j hj2 => ?_⟩, ?_, rfl, rfl, ?_, ?_⟩
        · (try conv => whnf)
          (repeat' (first | exact True.intro | exact fun _ h => h | refine inR64_of ?_ ?_ | apply And.intro | refine maxLen_ge ?_)) <;> (first | omega | (dsimp only; omega))
        · rcases Nat.lt_or_ge j i with h | h
          · exact hall j h
          · rw [show j = i by omega]; exact hne
        · omega
        all_goals repeat' (first | exact True.intro | refine leF_cons rfl ?_ ?_ | refine leS_cons rfl ?_ ?_ | (show PLe _ _ _ _; conv => whnf) | (show SLe _ _ _ _; conv => whnf) | (show PLeL _ _ _ _; conv => whnf) | apply And.intro | rfl | exact Nat.le_refl _ | exact fun _ _ => rfl | exact rowEq0 _ _)
        all_goals first | omega | skip
    · replace hc2 := of_decide_eq_false hc2
      have hk : i = l.length := by
        have h : ¬ (i : Int) < l.length := hc2
        omega
      subst hk
      rw [decide_eq_true (getD_extV hlm hall)]
      conv => whnf
      refine ⟨?_, [], ?_⟩
      · (try conv => whnf)
        (repeat' (first | exact True.intro | exact fun _ h => h | refine inR64_of ?_ ?_ | apply And.intro | refine maxLen_ge ?_)) <;> (first | omega | (dsimp only; omega))
      conv => whnf
      refine ⟨rfl, ?_, trivial, trivial⟩
      all_goals repeat' (first | exact True.intro | refine leF_cons rfl ?_ ?_ | refine leS_cons rfl ?_ ?_ | (show PLe _ _ _ _; conv => whnf) | (show SLe _ _ _ _; conv => whnf) | (show PLeL _ _ _ _; conv => whnf) | apply And.intro | rfl | exact Nat.le_refl _ | exact fun _ _ => rfl | exact rowEq0 _ _)
theorem any_take {l : List Vi} {f : Vi → Bool} {i : Nat} (h : i < l.length) : (l.take (i + 1)).any f = ((l.take i).any f || f (l.getD i default)) := by
  rw [List.take_add_one, getD_some h]
  simp
set_option maxRecDepth 100000 in
set_option maxHeartbeats 4000000 in
theorem call17 (τ : Nat) (l : List Vi) (v : Vi) (t : Int) (hl : l.length ≤ 4611686018427387904) : PureCall Tryd.prog 17 [.sl τ 4 l.length (fl eVi l), .agg (eVi v), .int .i64 t] [] ⟨.bool (inV l t v.s v.c), [], []⟩ := by
  refine pure_call mix Tryd.func17 fits17 rfl ?_
  conv => whnf
  refine ⟨trivial, ?_⟩
  refine LSem.loop (n := 34) mix (α := Nat) (fun i => i ≤ l.length ∧ (l.take i).any (atV t v.s v.c) = false)
    (fun i => [(9, .sl τ 4 l.length (fl eVi l)), (10, .int .i64 l.length), (11, .int .i64 i), (4, .pt 64 0 0), (2, .int .i64 t)])
    (fun i => [(64, .box (eVi v))]) (fun i => l.length - i) 0 ?_ ?_ ?_
  · exact ⟨Nat.zero_le _, rfl⟩
  · refine ⟨rfl, rfl, ?_, ?_⟩
    all_goals repeat' (first | exact True.intro | refine leF_cons rfl ?_ ?_ | refine leS_cons rfl ?_ ?_ | (show PLe _ _ _ _; conv => whnf) | (show SLe _ _ _ _; conv => whnf) | (show PLeL _ _ _ _; conv => whnf) | apply And.intro | rfl | exact Nat.le_refl _ | exact fun _ _ => rfl | exact rowEq0 _ _)
  · intro i hi
    obtain ⟨hi, hall⟩ := hi
    have hj : ((i : Int)).toNat = i := by omega
    conv => whnf
    refine ⟨trivial, fun hc2 => ?_, fun hc2 => ?_⟩
    · replace hc2 := of_decide_eq_true hc2
      have hlt : i < l.length := by
        have h : (i : Int) < l.length := hc2
        omega
      have ht := any_take (f := atV t v.s v.c) hlt
      rw [hall, Bool.false_or] at ht
      conv => whnf
      rw [hj]
      generalize hx : l.getD i default = x at ht ⊢
      refine ⟨?_, fun h1 => ?_, fun h1 => ?_⟩
      · (try conv => whnf)
        (repeat' (first | exact True.intro | exact fun _ h => h | exact fun h => by rw [h]; rfl | apply And.intro)) <;> (first | omega | (intro h; rw [h]; rfl) | skip)
        all_goals trace_state
      · rw [show inV l t v.s v.c = true by
          unfold inV
          rw [List.any_eq_true]
          refine ⟨x, ?_, h1⟩
          rw [← hx]
          simp [List.getD, hlt]]
        conv => whnf
        refine ⟨?_, [], ?_⟩
        · (try conv => whnf)
          (repeat' (first | exact True.intro | exact fun _ h => h | refine inR64_of ?_ ?_ | apply And.intro | refine maxLen_ge ?_)) <;> (first | omega | (dsimp only; omega))
        conv => whnf
        refine ⟨rfl, ?_, trivial, trivial⟩
        all_goals repeat' (first | exact True.intro | refine leF_cons rfl ?_ ?_ | refine leS_cons rfl ?_ ?_ | (show PLe _ _ _ _; conv => whnf) | (show SLe _ _ _ _; conv => whnf) | (show PLeL _ _ _ _; conv => whnf) | apply And.intro | rfl | exact Nat.le_refl _ | exact fun _ _ => rfl | exact rowEq0 _ _)
      · conv => whnf
        refine ⟨?_, i + 1, ⟨hlt, by rw [ht]; exact h1⟩, ?_, rfl, rfl, ?_, ?_⟩
        · (try conv => whnf)
          (repeat' (first | exact True.intro | exact fun _ h => h | refine inR64_of ?_ ?_ | apply And.intro | refine maxLen_ge ?_)) <;> (first | omega | (dsimp only; omega))
        · omega
        all_goals repeat' (first | exact True.intro | refine leF_cons rfl ?_ ?_ | refine leS_cons rfl ?_ ?_ | (show PLe _ _ _ _; conv => whnf) | (show SLe _ _ _ _; conv => whnf) | (show PLeL _ _ _ _; conv => whnf) | apply And.intro | rfl | exact Nat.le_refl _ | exact fun _ _ => rfl | exact rowEq0 _ _)
        all_goals first | omega | skip
    · replace hc2 := of_decide_eq_false hc2
      have hk : i = l.length := by
        have h : ¬ (i : Int) < l.length := hc2
        omega
      subst hk
      rw [List.take_length] at hall
      rw [show inV l t v.s v.c = false from hall]
      conv => whnf
      refine ⟨?_, [], ?_⟩
      · (try conv => whnf)
        (repeat' (first | exact True.intro | exact fun _ h => h | refine inR64_of ?_ ?_ | apply And.intro | refine maxLen_ge ?_)) <;> (first | omega | (dsimp only; omega))
      conv => whnf
      refine ⟨rfl, ?_, trivial, trivial⟩
      all_goals repeat' (first | exact True.intro | refine leF_cons rfl ?_ ?_ | refine leS_cons rfl ?_ ?_ | (show PLe _ _ _ _; conv => whnf) | (show SLe _ _ _ _; conv => whnf) | (show PLeL _ _ _ _; conv => whnf) | apply And.intro | rfl | exact Nat.le_refl _ | exact fun _ _ => rfl | exact rowEq0 _ _)
end Pv
end Go.Proofs.YtafnkpmoolbjjaaDoor
/- LAW 42, THE WALKS: how long a condition is violated. -/
set_option linter.unusedSimpArgs false
set_option linter.unusedVariables false
namespace Go.Proofs.YtafnkpmoolbjjaaDoor
namespace Pv
def c34L1 : C := (.seq (.seq (.reg [⟨(some 6), 96, none, .mv (.t 0)⟩,
    ⟨(some 7), 112, none, .ld 3 true (.t 3)⟩,
    ⟨(some 8), 128, none, .mpg [(.i .i64), (.i .i64), (.i .i64)] [.b] true false false (.t 6) (.t 7)⟩])
  (.cond (.t 8) .skip (.exit 0)))
  (.block 1 (.seq (.reg [⟨(some 9), 144, none, .mv (.t 5)⟩,
    ⟨(some 10), 160, none, .bi false .add (.t 9) (.c (.int .i64 1))⟩,
    ⟨(some 5), 80, none, .mv (.t 10)⟩])
  (.seq (.seq (.reg [⟨(some 11), 176, none, .fa 0 (.t 3)⟩,
    ⟨(some 12), 192, none, .ld 1 false (.t 11)⟩,
    ⟨(some 13), 208, none, .bi false .eql (.t 12) (.c (.int .i64 9223372036854775807))⟩])
  (.cond (.t 13) (.exit 0) .skip))
  (.reg [⟨(some 14), 224, none, .fa 0 (.t 3)⟩,
    ⟨(some 15), 240, none, .ld 1 false (.t 14)⟩,
    ⟨(some 16), 256, none, .bi false .add (.t 15) (.c (.int .i64 1))⟩,
    ⟨(some 17), 272, none, .fa 0 (.t 3)⟩,
    ⟨none, 0, none, .st 1 (.t 17) (.t 16)⟩])))))
def c34 : C := (.seq (.reg [⟨(some 3), 48, none, .bx 3 (.t 1)⟩,
    ⟨(some 4), 64, none, .mv (.c (.int .i64 0))⟩])
  (.seq (.reg [⟨(some 5), 80, none, .mv (.c (.int .i64 0))⟩])
  (.seq (.block 0 (.loop c34L1))
  (.seq (.reg [⟨(some 18), 288, none, .mv (.t 5)⟩,
    ⟨(some 4), 64, none, .mv (.t 18)⟩])
  .ret))))
theorem fits34 : fits Tryd.prog false Tryd.f34 2 19 [(4, none)] = some c34.er := by kernel_rfl
def kI (j : Nat) (kc : List PC) : Int := intP (kc.getD j default)
def hV (l : List Vi) : List PC → Bool := fun kc => inV l (kI 0 kc) (kI 1 kc) (kI 2 kc)
def fV (l : List Vi) : List PC → List PC := fun kc => [.b (inV l (kI 0 kc) (kI 1 kc) (kI 2 kc))]
abbrev K3 : List KK := [.i .i64, .i .i64, .i .i64]
abbrev mpV (l : List Vi) : SE := .box [.mpv K3 [.b] true false (hV l) (fV l)]
def runL (l : List Vi) (s c : Int) : Nat → Int → Nat
  | 0, _ => 0
  | n + 1, t => if inV l t s c = true then if t = 9223372036854775807 then 1 else 1 + runL l s c n (t + 1) else 0
def runV (l : List Vi) (t s c : Int) : Nat := runL l s c (l.length + 1) t
theorem nodup_sub : ∀ (a b : List Int), a.Nodup → (∀ x ∈ a, x ∈ b) → a.length ≤ b.length
  | [], _, _, _ => Nat.zero_le _
  | x :: a, b, hn, h => by
    have hx := h x (by simp)
    have hn' := List.nodup_cons.1 hn
    have h1 := nodup_sub a (b.erase x) hn'.2 (fun y hy => (List.mem_erase_of_ne (fun e => hn'.1 (by rw [← e]; exact hy))).2 (h y (by simp [hy])))
    have h2 := List.length_erase_of_mem hx
    have h3 := List.length_pos_of_mem hx
    simp only [List.length_cons]; omega
theorem inV_mem {l : List Vi} {t s c : Int} (h : inV l t s c = true) : ∃ v ∈ l, v.t = t ∧ v.s = s ∧ v.c = c := by
  unfold inV at h
  obtain ⟨v, hv, ha⟩ := List.any_eq_true.1 h
  refine ⟨v, hv, ?_⟩
  unfold atV at ha
  by_cases h1 : v.s = s
  · by_cases h2 : v.c = c
    · simp only [h1, h2, beq_self_eq_true, cond_true] at ha
      exact ⟨by simpa using ha, h1, h2⟩
    · rw [beq_iff_eq.2 h1, beq_eq_false_iff_ne.2 h2] at ha; cases ha
  · rw [beq_eq_false_iff_ne.2 h1] at ha; cases ha
theorem inV_of {l : List Vi} {v : Vi} (h : v ∈ l) : inV l v.t v.s v.c = true := by
  unfold inV
  exact List.any_eq_true.2 ⟨v, h, by simp [atV]⟩
theorem inV_run {l : List Vi} {t s c : Int} {k : Nat} (h : ∀ i : Nat, i < k → inV l (t + i) s c = true) : k ≤ l.length := by
  have := nodup_sub ((List.range k).map fun i : Nat => t + (i : Int)) (l.map (·.t)) (by
      rw [List.Nodup, List.pairwise_map]
      exact List.nodup_range.imp fun {a b} hab e => hab (by omega)) (fun x hx => by
    obtain ⟨i, hi, rfl⟩ := List.mem_map.1 hx
    obtain ⟨v, hv, h1, _⟩ := inV_mem (h i (List.mem_range.1 hi))
    exact List.mem_map.2 ⟨v, hv, h1⟩)
  simpa using this
theorem inV_any (l : List Vi) (v : Vi) (t s c : Int) : inV (l ++ [v]) t s c = (inV l t s c || atV t s c v) := by simp [inV]
theorem runL_rng (l : List Vi) (s c : Int) : ∀ (n : Nat) (t : Int), runL l s c n t ≤ n
  | 0, _ => Nat.le_refl _
  | n + 1, t => by
    have := runL_rng l s c n (t + 1)
    unfold runL
    split
    · split <;> omega
    · omega
set_option maxRecDepth 100000 in
set_option maxHeartbeats 4000000 in
theorem call34 (l : List Vi) (t s c : Int) (ht : t ≤ 9223372036854775807) (ht0 : -9223372036854775808 ≤ t) (hl : l.length ≤ 4611686018427387904) : PureCall Tryd.prog 34 [.rf none 0, .agg [.int .i64 t, .int .i64 s, .int .i64 c]] [mpV l] ⟨.int .i64 (runV l t s c), [mpV l], []⟩ := by
  refine pure_call mix Tryd.func34 fits34 rfl ?_
  conv => whnf
  refine ⟨trivial, ?_⟩
  refine LSem.loop (n := 19) mix (α := Nat) (fun k => t + k ≤ 9223372036854775807 ∧ (∀ i : Nat, i < k → inV l (t + i) s c = true) ∧ k + runL l s c (l.length + 1 - k) (t + k) = runV l t s c)
    (fun k => [(0, .rf none 0), (3, .pt 48 0 0), (5, .int .i64 k)])
    (fun k => [(0, mpV l), (48, .box [.int .i64 (t + k), .int .i64 s, .int .i64 c])]) (fun k => l.length + 1 - k) 0 ?_ ?_ ?_
  · exact ⟨by simpa using ht, fun i hi => absurd hi (Nat.not_lt_zero i), by simp [runV]⟩
  · refine ⟨rfl, rfl, ?_, ?_⟩
    all_goals repeat' (first | exact True.intro | refine leF_cons rfl ?_ ?_ | refine leS_cons rfl ?_ ?_ | (show PLe _ _ _ _; conv => whnf) | (show SLe _ _ _ _; conv => whnf) | (show PLeL _ _ _ _; conv => whnf) | apply And.intro | rfl | exact Nat.le_refl _ | exact fun _ _ => rfl | exact rowEq0 _ _)
    all_goals first | exact fun kl _ => ⟨rfl, rfl⟩ | omega | skip
  · intro k hk
    obtain ⟨hk1, hk2, hk3⟩ := hk
    have hkl := inV_run hk2
    obtain ⟨m, hm⟩ : ∃ m, l.length + 1 - k = m + 1 := ⟨l.length - k, by omega⟩
    rw [hm] at hk3
    unfold runL at hk3
    conv => whnf
    refine ⟨?_, fun hc => ?_, fun hc => ?_⟩
    · (try conv => whnf)
      (repeat' (first | exact True.intro | exact fun _ h => h | refine inR64_of ?_ ?_ | apply And.intro | refine maxLen_ge ?_)) <;> (first | omega | (dsimp only; omega))
    · have hin : inV l (t + k) s c = true := hc
      rw [if_pos hin] at hk3
      conv => whnf
      refine ⟨?_, fun hc2 => ?_, fun hc2 => ?_⟩
      · (try conv => whnf)
        (repeat' (first | exact True.intro | exact fun _ h => h | refine inR64_of ?_ ?_ | apply And.intro | refine maxLen_ge ?_)) <;> (first | omega | (dsimp only; omega))
      · have he : t + (k : Int) = 9223372036854775807 := by simpa using hc2
        rw [if_pos he] at hk3
        rw [← hk3]
        conv => whnf
        refine ⟨?_, [], ?_⟩
        · (try conv => whnf)
          (repeat' (first | exact True.intro | exact fun _ h => h | refine inR64_of ?_ ?_ | apply And.intro | refine maxLen_ge ?_)) <;> (first | omega | (dsimp only; omega))
        conv => whnf
        refine ⟨rfl, ?_, ?_, trivial⟩
        all_goals repeat' (first | exact True.intro | refine leF_cons rfl ?_ ?_ | refine leS_cons rfl ?_ ?_ | (show PLe _ _ _ _; conv => whnf) | (show SLe _ _ _ _; conv => whnf) | (show PLeL _ _ _ _; conv => whnf) | apply And.intro | rfl | exact Nat.le_refl _ | exact fun _ _ => rfl | exact rowEq0 _ _)
        all_goals first | exact fun kl _ => ⟨rfl, rfl⟩ | omega | skip
      · have he : ¬ t + (k : Int) = 9223372036854775807 := by simpa using hc2
        rw [if_neg he] at hk3
        conv => whnf
        refine ⟨?_, k + 1, ⟨by omega, fun i hi => ?_, ?_⟩, ?_, rfl, rfl, ?_, ?_⟩
        · (try conv => whnf)
          (repeat' (first | exact True.intro | exact fun _ h => h | refine inR64_of ?_ ?_ | apply And.intro | refine maxLen_ge ?_)) <;> (first | omega | (dsimp only; omega))
        · rcases Nat.lt_or_ge i k with h | h
          · exact hk2 i h
          · rw [show i = k by omega]; exact hin
        · rw [← hk3, show l.length + 1 - (k + 1) = m by omega, show t + ((k + 1 : Nat) : Int) = t + k + 1 by omega]; omega
        · omega
        all_goals repeat' (first | exact True.intro | refine leF_cons rfl ?_ ?_ | refine leS_cons rfl ?_ ?_ | (show PLe _ _ _ _; conv => whnf) | (show SLe _ _ _ _; conv => whnf) | (show PLeL _ _ _ _; conv => whnf) | apply And.intro | rfl | exact Nat.le_refl _ | exact fun _ _ => rfl | exact rowEq0 _ _)
        all_goals first | exact fun kl _ => ⟨rfl, rfl⟩ | omega | skip
    · have hin : ¬ inV l (t + k) s c = true := fun h => by
        have hc' : inV l (t + k) s c = false := hc
        rw [h] at hc'; cases hc'
      rw [if_neg hin] at hk3
      have hk4 : runV l t s c = k := by omega
      rw [hk4]
      conv => whnf
      refine ⟨?_, [], ?_⟩
      · (try conv => whnf)
        (repeat' (first | exact True.intro | exact fun _ h => h | refine inR64_of ?_ ?_ | apply And.intro | refine maxLen_ge ?_)) <;> (first | omega | (dsimp only; omega))
      conv => whnf
      refine ⟨rfl, ?_, ?_, trivial⟩
      all_goals repeat' (first | exact True.intro | refine leF_cons rfl ?_ ?_ | refine leS_cons rfl ?_ ?_ | (show PLe _ _ _ _; conv => whnf) | (show SLe _ _ _ _; conv => whnf) | (show PLeL _ _ _ _; conv => whnf) | apply And.intro | rfl | exact Nat.le_refl _ | exact fun _ _ => rfl | exact rowEq0 _ _)
      all_goals first | exact fun kl _ => ⟨rfl, rfl⟩ | skip
end Pv
end Go.Proofs.YtafnkpmoolbjjaaDoor
/- LAW 42, THE WALKS: what lasts longest. -/
set_option linter.unusedSimpArgs false
set_option linter.unusedVariables false
namespace Go.Proofs.YtafnkpmoolbjjaaDoor
namespace Pv
def c16L1 : C := (.seq (.reg [⟨(some 20), 320, none, .bi false .lss (.t 19) (.t 18)⟩])
  (.seq (.cond (.t 20) .skip (.exit 0))
  (.seq (.block 1 (.seq (.reg [⟨(some 21), 336, none, .ia 4 (.t 17) (.t 19)⟩,
    ⟨(some 22), 352, none, .ld 4 true (.t 21)⟩,
    ⟨(some 7), 112, none, .al [(.int .i64 0), (.int .i64 0), (.int .i64 0), (.int .i64 0)]⟩,
    ⟨none, 0, none, .st 4 (.t 7) (.t 22)⟩])
  (.reg [⟨(some 23), 368, none, .mv (.t 5)⟩,
    ⟨(some 24), 384, none, .fa 0 (.t 7)⟩,
    ⟨(some 25), 400, none, .ld 1 false (.t 24)⟩,
    ⟨(some 26), 416, none, .fa 1 (.t 7)⟩,
    ⟨(some 27), 432, none, .ld 1 false (.t 26)⟩,
    ⟨(some 28), 448, none, .fa 2 (.t 7)⟩,
    ⟨(some 29), 464, none, .ld 1 false (.t 28)⟩,
    ⟨(some 30), 480, none, .bd [(.int .i64 0), (.int .i64 0), (.int .i64 0)] [(0, 1, (.t 25)), (1, 1, (.t 27)), (2, 1, (.t 29))]⟩,
    ⟨none, 0, none, .mpu [(.i .i64), (.i .i64), (.i .i64)] [.b] true false (.t 23) (.t 30) (.c (.bool true))⟩])))
  (.reg [⟨(some 31), 496, none, .bi false .add (.t 19) (.c (.int .i64 1))⟩,
    ⟨(some 19), 304, none, .mv (.t 31)⟩]))))
def c16L2 : C := (.seq (.reg [⟨(some 36), 576, none, .bi false .lss (.t 35) (.t 34)⟩])
  (.seq (.cond (.t 36) .skip (.exit 2))
  (.seq (.block 3 (.seq (.reg [⟨(some 37), 592, none, .ia 4 (.t 33) (.t 35)⟩,
    ⟨(some 38), 608, none, .ld 4 true (.t 37)⟩,
    ⟨(some 12), 192, none, .al [(.int .i64 0), (.int .i64 0), (.int .i64 0), (.int .i64 0)]⟩,
    ⟨none, 0, none, .st 4 (.t 12) (.t 38)⟩])
  (.seq (.reg [⟨(some 39), 624, none, .fa 0 (.t 12)⟩,
    ⟨(some 40), 640, none, .ld 1 false (.t 39)⟩,
    ⟨(some 41), 656, none, .fa 1 (.t 12)⟩,
    ⟨(some 42), 672, none, .ld 1 false (.t 41)⟩,
    ⟨(some 43), 688, none, .fa 2 (.t 12)⟩,
    ⟨(some 44), 704, none, .ld 1 false (.t 43)⟩,
    ⟨(some 45), 720, none, .bd [(.int .i64 0), (.int .i64 0), (.int .i64 0)] [(0, 1, (.t 40)), (1, 1, (.t 42)), (2, 1, (.t 44))]⟩,
    ⟨(some 13), 208, none, .al [(.int .i64 0), (.int .i64 0), (.int .i64 0)]⟩,
    ⟨none, 0, none, .st 3 (.t 13) (.t 45)⟩])
  (.seq (.reg [⟨(some 47), 752, none, .mv (.t 8)⟩,
    ⟨(some 48), 768, none, .ld 3 true (.t 13)⟩,
    ⟨(some 49), 784, none, .mpg [(.i .i64), (.i .i64), (.i .i64)] [(.i .i64)] true false true (.t 47) (.t 48)⟩,
    ⟨(some 46), 736, none, .mv (.t 49)⟩,
    ⟨(some 50), 800, none, .ex (.t 46) 0⟩,
    ⟨(some 51), 816, none, .ex (.t 46) 1⟩,
    ⟨(some 14), 224, none, .mv (.t 50)⟩,
    ⟨(some 15), 240, none, .mv (.t 51)⟩])
  (.seq (.seq (.reg [⟨(some 52), 832, none, .mv (.t 15)⟩,
    ⟨(some 53), 848, none, .un false .not (.t 52)⟩])
  (.cond (.t 53) (.seq (.reg [⟨(some 54), 864, none, .mv (.t 5)⟩,
    ⟨(some 55), 880, none, .ld 3 true (.t 13)⟩,
    ⟨(some 56), 896, none, .call (.c (.fn (.func 34) [] [])) [(.t 54), (.t 55)]⟩,
    ⟨(some 14), 224, none, .mv (.t 56)⟩])
  (.reg [⟨(some 57), 912, none, .mv (.t 8)⟩,
    ⟨(some 58), 928, none, .ld 3 true (.t 13)⟩,
    ⟨(some 59), 944, none, .mv (.t 14)⟩,
    ⟨none, 0, none, .mpu [(.i .i64), (.i .i64), (.i .i64)] [(.i .i64)] true false (.t 57) (.t 58) (.t 59)⟩])) .skip))
  (.seq (.reg [⟨(some 60), 960, none, .mv (.t 14)⟩,
    ⟨(some 61), 976, none, .mv (.t 10)⟩,
    ⟨(some 62), 992, none, .bi false .gtr (.t 60) (.t 61)⟩])
  (.cond (.t 62) (.reg [⟨(some 63), 1008, none, .ld 4 true (.t 12)⟩,
    ⟨(some 64), 1024, none, .mv (.t 14)⟩,
    ⟨none, 0, none, .st 4 (.t 9) (.t 63)⟩,
    ⟨(some 10), 160, none, .mv (.t 64)⟩]) .skip)))))))
  (.reg [⟨(some 65), 1040, none, .bi false .add (.t 35) (.c (.int .i64 1))⟩,
    ⟨(some 35), 560, none, .mv (.t 65)⟩]))))
def c16 : C := (.seq (.reg [⟨(some 2), 32, none, .al [(.int .i64 0), (.int .i64 0), (.int .i64 0), (.int .i64 0)]⟩,
    ⟨(some 3), 48, none, .mv (.c (.int .i64 0))⟩,
    ⟨(some 4), 64, none, .mv (.c (.bool false))⟩])
  (.seq (.reg [⟨(some 16), 256, none, .mkm [(.i .i64), (.i .i64), (.i .i64)] [.b] true false⟩,
    ⟨(some 5), 80, none, .mv (.t 16)⟩])
  (.seq (.seq (.reg [⟨(some 17), 272, none, .mv (.t 0)⟩,
    ⟨(some 18), 288, none, .len (.t 17)⟩,
    ⟨(some 19), 304, none, .mv (.c (.int .i64 0))⟩])
  (.block 0 (.loop c16L1)))
  (.seq (.reg [⟨(some 32), 512, none, .mkm [(.i .i64), (.i .i64), (.i .i64)] [(.i .i64)] true false⟩,
    ⟨(some 8), 128, none, .mv (.t 32)⟩])
  (.seq (.reg [⟨(some 9), 144, none, .al [(.int .i64 0), (.int .i64 0), (.int .i64 0), (.int .i64 0)]⟩])
  (.seq (.reg [⟨(some 10), 160, none, .mv (.c (.int .i64 0))⟩])
  (.seq (.seq (.reg [⟨(some 33), 528, none, .mv (.t 0)⟩,
    ⟨(some 34), 544, none, .len (.t 33)⟩,
    ⟨(some 35), 560, none, .mv (.c (.int .i64 0))⟩])
  (.block 2 (.loop c16L2)))
  (.seq (.reg [⟨(some 66), 1056, none, .ld 4 true (.t 9)⟩,
    ⟨(some 67), 1072, none, .mv (.t 10)⟩,
    ⟨(some 68), 1088, none, .mv (.t 10)⟩,
    ⟨(some 69), 1104, none, .bi false .gtr (.t 68) (.c (.int .i64 0))⟩,
    ⟨none, 0, none, .st 4 (.t 2) (.t 66)⟩,
    ⟨(some 3), 48, none, .mv (.t 67)⟩,
    ⟨(some 4), 64, none, .mv (.t 69)⟩])
  .ret))))))))
theorem fits16 : fits Tryd.prog false Tryd.f16 1 70 [(2, some (4, true)), (3, none), (4, none)] = some c16.er := by kernel_rfl
def gV (l : List Vi) (i : Nat) : List PC → List PC := fun kc => [.i (if inV (l.take i) (kI 0 kc) (kI 1 kc) (kI 2 kc) = true then (runV l (kI 0 kc) (kI 1 kc) (kI 2 kc) : Int) else 0)]
abbrev mpG (l : List Vi) (i : Nat) : SE := .box [.mpv K3 [.i .i64] true false (hV (l.take i)) (gV l i)]
def vi0 : Vi := ⟨0, 0, 0, 0⟩
def bestS (l : List Vi) (x : Vi × Int) (v : Vi) : Vi × Int := if (runV l v.t v.s v.c : Int) > x.2 then (v, (runV l v.t v.s v.c : Int)) else x
def bestF (l : List Vi) (i : Nat) : Vi × Int := (l.take i).foldl (bestS l) (vi0, 0)
theorem bestF_push {l : List Vi} {i : Nat} (h : i < l.length) : bestF l (i + 1) = bestS l (bestF l i) (l.getD i default) := by
  unfold bestF
  rw [List.take_add_one, getD_some h]
  simp
theorem key3 {kl : List PC} (h : okK K3 kl = true) : ∃ t s c, kl = [.i t, .i s, .i c] := by
  match kl, okK_len h with
  | [a, b, c], _ =>
    obtain ⟨h1, h⟩ := okK_cons h
    obtain ⟨h2, h⟩ := okK_cons h
    obtain ⟨h3, _⟩ := okK_cons h
    have one : ∀ x : PC, okC (.i .i64) x = true → ∃ n, x = .i n := fun x hx => by
      cases x with
      | i n => exact ⟨n, rfl⟩
      | b _ => cases hx
      | s _ => cases hx
    obtain ⟨t, rfl⟩ := one a h1
    obtain ⟨s, rfl⟩ := one b h2
    obtain ⟨c, rfl⟩ := one c h3
    exact ⟨t, s, c, rfl⟩
theorem eqK3 (t s c t' s' c' : Int) : eqK [.i t, .i s, .i c] [.i t', .i s', .i c'] = decide (t = t' ∧ s = s' ∧ c = c') := by
  simp only [eqK, eqC]
  by_cases h1 : t = t' <;> by_cases h2 : s = s' <;> by_cases h3 : c = c' <;> simp [h1, h2, h3]
theorem atV_dec (t s c : Int) (v : Vi) : atV t s c v = decide (t = v.t ∧ s = v.s ∧ c = v.c) := by
  unfold atV
  by_cases h2 : v.s = s
  · by_cases h3 : v.c = c
    · by_cases h1 : v.t = t
      · rw [beq_iff_eq.2 h1, beq_iff_eq.2 h2, beq_iff_eq.2 h3, decide_eq_true ⟨h1.symm, h2.symm, h3.symm⟩]; rfl
      · rw [beq_eq_false_iff_ne.2 h1, beq_iff_eq.2 h2, beq_iff_eq.2 h3, decide_eq_false (fun h => h1 h.1.symm)]; rfl
    · rw [beq_iff_eq.2 h2, beq_eq_false_iff_ne.2 h3, decide_eq_false (fun h => h3 h.2.2.symm)]; rfl
  · rw [beq_eq_false_iff_ne.2 h2, decide_eq_false (fun h => h2 h.2.1.symm)]; rfl
theorem take_pushV {l : List Vi} {i : Nat} (h : i < l.length) : l.take (i + 1) = l.take i ++ [l.getD i default] := by
  rw [List.take_add_one, getD_some h]; rfl
theorem mpV_put {l : List Vi} {v : Vi} : MpEq K3 (fun c => eqK c [.i v.t, .i v.s, .i v.c] || hV l c) (fun c => bif eqK c [.i v.t, .i v.s, .i v.c] then [.b true] else fV l c) (hV (l ++ [v])) (fV (l ++ [v])) := fun kl hk => by
  obtain ⟨t, s, c, rfl⟩ := key3 hk
  dsimp only
  rw [eqK3]
  have e : hV (l ++ [v]) [.i t, .i s, .i c] = (inV l t s c || decide (t = v.t ∧ s = v.s ∧ c = v.c)) := by
    show inV (l ++ [v]) t s c = _
    rw [inV_any, atV_dec]
  have e2 : fV (l ++ [v]) [.i t, .i s, .i c] = [.b (inV l t s c || decide (t = v.t ∧ s = v.s ∧ c = v.c))] := by
    show [PC.b (inV (l ++ [v]) t s c)] = _
    rw [inV_any, atV_dec]
  rw [e, e2]
  have e3 : hV l [.i t, .i s, .i c] = inV l t s c := rfl
  have e4 : fV l [.i t, .i s, .i c] = [.b (inV l t s c)] := rfl
  rw [e3, e4]
  by_cases h : t = v.t ∧ s = v.s ∧ c = v.c
  · rw [decide_eq_true h]; simp
  · rw [decide_eq_false h]; simp
theorem mpG_put {l : List Vi} {i : Nat} (hi : i < l.length) : MpEq K3 (fun c => eqK c [.i (l.getD i default).t, .i (l.getD i default).s, .i (l.getD i default).c] || hV (l.take i) c) (fun c => bif eqK c [.i (l.getD i default).t, .i (l.getD i default).s, .i (l.getD i default).c] then [.i (runV l (l.getD i default).t (l.getD i default).s (l.getD i default).c : Int)] else gV l i c)
    (hV (l.take (i + 1))) (gV l (i + 1)) := fun kl hk => by
  obtain ⟨t, s, c, rfl⟩ := key3 hk
  rw [take_pushV hi]
  dsimp only
  have e2 : gV l (i + 1) [.i t, .i s, .i c] = [.i (if (inV (l.take i) t s c || decide (t = (l.getD i default).t ∧ s = (l.getD i default).s ∧ c = (l.getD i default).c)) = true then (runV l t s c : Int) else 0)] := by
    show [PC.i (if inV (l.take (i + 1)) t s c = true then (runV l t s c : Int) else 0)] = _
    rw [take_pushV hi, inV_any, atV_dec]
  rw [e2]
  generalize l.getD i default = v
  have e : hV (l.take i ++ [v]) [.i t, .i s, .i c] = (inV (l.take i) t s c || decide (t = v.t ∧ s = v.s ∧ c = v.c)) := by
    show inV (l.take i ++ [v]) t s c = _
    rw [inV_any, atV_dec]
  rw [e, eqK3]
  have e3 : hV (l.take i) [.i t, .i s, .i c] = inV (l.take i) t s c := rfl
  have e4 : gV l i [.i t, .i s, .i c] = [.i (if inV (l.take i) t s c = true then (runV l t s c : Int) else 0)] := rfl
  rw [e3, e4]
  by_cases h : t = v.t ∧ s = v.s ∧ c = v.c
  · rw [decide_eq_true h]
    obtain ⟨rfl, rfl, rfl⟩ := h
    simp
  · rw [decide_eq_false h]; simp
theorem mpG_same {l : List Vi} {i : Nat} (hi : i < l.length) (hin : inV (l.take i) (l.getD i default).t (l.getD i default).s (l.getD i default).c = true) : MpEq K3 (hV (l.take i)) (gV l i) (hV (l.take (i + 1))) (gV l (i + 1)) := fun kl hk => by
  obtain ⟨t, s, c, rfl⟩ := key3 hk
  have e : inV (l.take (i + 1)) t s c = inV (l.take i) t s c := by
    rw [take_pushV hi, inV_any, atV_dec]
    by_cases h : t = (l.getD i default).t ∧ s = (l.getD i default).s ∧ c = (l.getD i default).c
    · rw [decide_eq_true h, h.1, h.2.1, h.2.2, hin]; rfl
    · rw [decide_eq_false h, Bool.or_false]
  constructor
  · show inV (l.take i) t s c = inV (l.take (i + 1)) t s c
    rw [e]
  · show [PC.i (if inV (l.take i) t s c = true then (runV l t s c : Int) else 0)] = [PC.i (if inV (l.take (i + 1)) t s c = true then (runV l t s c : Int) else 0)]
    rw [e]
set_option maxRecDepth 100000 in
set_option maxHeartbeats 8000000 in
theorem call16 (τ : Nat) (l : List Vi) (hl : l.length ≤ 4611686018427387904) (hV64 : ∀ i, i < l.length → -9223372036854775808 ≤ (l.getD i default).t ∧ (l.getD i default).t ≤ 9223372036854775807) :
    PureCall Tryd.prog 16 [.sl τ 4 l.length (fl eVi l)] [] ⟨.tup [.agg (eVi (bestF l l.length).1), .int .i64 (bestF l l.length).2, .bool (decide (0 < (bestF l l.length).2))], [], []⟩ := by
  refine pure_call mix Tryd.func16 fits16 rfl ?_
  conv => whnf
  refine ⟨trivial, ?_⟩
  refine LSem.loop (n := 70) mix (α := Nat) (fun i => i ≤ l.length)
    (fun i => [(0, .sl τ 4 l.length (fl eVi l)), (2, .pt 32 0 0), (5, .rf none 256), (17, .sl τ 4 l.length (fl eVi l)), (18, .int .i64 l.length), (19, .int .i64 i)])
    (fun i => [(32, .box (eVi vi0)), (256, mpV (l.take i))]) (fun i => l.length - i) 0 ?_ ?_ ?_
  · exact Nat.zero_le _
  · refine ⟨rfl, rfl, ?_, ?_⟩
    all_goals repeat' (first | exact True.intro | refine leF_cons rfl ?_ ?_ | refine leS_cons rfl ?_ ?_ | (show PLe _ _ _ _; conv => whnf) | (show SLe _ _ _ _; conv => whnf) | (show PLeL _ _ _ _; conv => whnf) | apply And.intro | rfl | exact Nat.le_refl _ | exact fun _ _ => rfl | exact rowEq0 _ _)
    all_goals first | exact fun kl _ => ⟨rfl, rfl⟩ | skip
  · intro i hi
    have hj : ((i : Int)).toNat = i := by omega
    conv => whnf
    refine ⟨trivial, fun hc => ?_, fun hc => ?_⟩
    · replace hc := of_decide_eq_true hc
      have hlt : i < l.length := by
        have h : (i : Int) < l.length := hc
        omega
      have hq := mpV_put (l := l.take i) (v := l.getD i default)
      rw [← take_pushV hlt] at hq
      conv => whnf
      rw [hj]
      refine ⟨?_, i + 1, hlt, ?_, rfl, rfl, ?_, ?_⟩
      · (try conv => whnf)
        (repeat' (first | exact True.intro | exact fun _ h => h | refine inR64_of ?_ ?_ | apply And.intro | refine maxLen_ge ?_)) <;> (first | omega | (dsimp only; omega))
      · omega
      all_goals repeat' (first | exact True.intro | refine leF_cons rfl ?_ ?_ | refine leS_cons rfl ?_ ?_ | (show PLe _ _ _ _; conv => whnf) | (show SLe _ _ _ _; conv => whnf) | (show PLeL _ _ _ _; conv => whnf) | apply And.intro | rfl | exact Nat.le_refl _ | exact fun _ _ => rfl | exact rowEq0 _ _)
      all_goals first | exact hq | omega | skip
    · replace hc := of_decide_eq_false hc
      have hk : i = l.length := by
        have h : ¬ (i : Int) < l.length := hc
        omega
      subst hk
      rw [List.take_length]
      conv => whnf
      refine ⟨?_, ?_⟩
      · (try conv => whnf)
        (repeat' (first | exact True.intro | exact fun _ h => h | refine inR64_of ?_ ?_ | apply And.intro | refine maxLen_ge ?_)) <;> (first | omega | (dsimp only; omega))
      refine LSem.loop (n := 70) mix (α := Nat) (fun i => i ≤ l.length)
        (fun i => [(2, .pt 32 0 0), (5, .rf none 256), (8, .rf none 512), (9, .pt 144 0 0), (10, .int .i64 (bestF l i).2), (33, .sl τ 4 l.length (fl eVi l)), (34, .int .i64 l.length), (35, .int .i64 i)])
        (fun i => [(32, .box (eVi vi0)), (256, mpV l), (512, mpG l i), (144, .box (eVi (bestF l i).1))]) (fun i => l.length - i) 0 ?_ ?_ ?_
      · exact Nat.zero_le _
      · refine ⟨rfl, rfl, ?_, ?_⟩
        all_goals repeat' (first | exact True.intro | refine leF_cons rfl ?_ ?_ | refine leS_cons rfl ?_ ?_ | (show PLe _ _ _ _; conv => whnf) | (show SLe _ _ _ _; conv => whnf) | (show PLeL _ _ _ _; conv => whnf) | apply And.intro | rfl | exact Nat.le_refl _ | exact fun _ _ => rfl | exact rowEq0 _ _)
        all_goals first | exact fun kl _ => ⟨rfl, rfl⟩ | skip
      · intro i hi
        have hj : ((i : Int)).toNat = i := by omega
        conv => whnf
        refine ⟨trivial, fun hc2 => ?_, fun hc2 => ?_⟩
        · replace hc2 := of_decide_eq_true hc2
          have hlt : i < l.length := by
            have h : (i : Int) < l.length := hc2
            omega
          have hput := mpG_put hlt
          have hsame := mpG_same hlt
          have hbp := bestF_push hlt
          have hv64 := hV64 i hlt
          conv => whnf
          rw [hj]
          generalize l.getD i default = v at hput hsame hbp hv64 ⊢
          have hr0 : (0 : Int) ≤ runV l v.t v.s v.c ∧ (runV l v.t v.s v.c : Int) ≤ l.length + 1 := by
            have := runL_rng l v.s v.c (l.length + 1) v.t
            have e : runV l v.t v.s v.c = runL l v.s v.c (l.length + 1) v.t := rfl
            omega
          unfold bestS at hbp
          refine ⟨?_, fun hk => ?_, fun hk => ?_⟩
          · (try conv => whnf)
            (repeat' (first | exact True.intro | exact fun _ h => h | refine inR64_of ?_ ?_ | apply And.intro | refine maxLen_ge ?_)) <;> (first | omega | (dsimp only; omega))
          · have hno : inV (l.take i) v.t v.s v.c = false := by
              have hk' : (!(inV (l.take i) v.t v.s v.c)) = true := hk
              simpa using hk'
            conv => whnf
            refine ⟨_, fun _ => call34 l v.t v.s v.c hv64.2 hv64.1 hl, ?_⟩
            generalize runV l v.t v.s v.c = R at hput hbp hr0 ⊢
            conv => whnf
            refine ⟨?_, fun hg => ?_, fun hg => ?_⟩
            · (try conv => whnf)
              (repeat' (first | exact True.intro | exact fun _ h => h | refine inR64_of ?_ ?_ | apply And.intro | refine maxLen_ge ?_)) <;> (first | omega | (dsimp only; omega))
            · have hg' : (R : Int) > (bestF l i).2 := of_decide_eq_true hg
              rw [if_pos hg'] at hbp
              conv => whnf
              refine ⟨?_, i + 1, hlt, ?_, rfl, rfl, ?_, ?_⟩
              · (try conv => whnf)
                (repeat' (first | exact True.intro | exact fun _ h => h | refine inR64_of ?_ ?_ | apply And.intro | refine maxLen_ge ?_)) <;> (first | omega | (dsimp only; omega))
              · omega
              all_goals repeat' (first | exact True.intro | refine leF_cons rfl ?_ ?_ | refine leS_cons rfl ?_ ?_ | (show PLe _ _ _ _; conv => whnf) | (show SLe _ _ _ _; conv => whnf) | (show PLeL _ _ _ _; conv => whnf) | apply And.intro | rfl | exact Nat.le_refl _ | exact fun _ _ => rfl | exact rowEq0 _ _)
              all_goals first | exact hput | (rw [hbp]; done) | exact fun kl _ => ⟨rfl, rfl⟩ | omega | skip
            · have hg' : ¬ (R : Int) > (bestF l i).2 := of_decide_eq_false hg
              rw [if_neg hg'] at hbp
              conv => whnf
              refine ⟨?_, i + 1, hlt, ?_, rfl, rfl, ?_, ?_⟩
              · (try conv => whnf)
                (repeat' (first | exact True.intro | exact fun _ h => h | refine inR64_of ?_ ?_ | apply And.intro | refine maxLen_ge ?_)) <;> (first | omega | (dsimp only; omega))
              · omega
              all_goals repeat' (first | exact True.intro | refine leF_cons rfl ?_ ?_ | refine leS_cons rfl ?_ ?_ | (show PLe _ _ _ _; conv => whnf) | (show SLe _ _ _ _; conv => whnf) | (show PLeL _ _ _ _; conv => whnf) | apply And.intro | rfl | exact Nat.le_refl _ | exact fun _ _ => rfl | exact rowEq0 _ _)
              all_goals first | exact hput | (rw [hbp]; done) | exact fun kl _ => ⟨rfl, rfl⟩ | omega | skip
          · have hin : inV (l.take i) v.t v.s v.c = true := by
              have hk' : (!(inV (l.take i) v.t v.s v.c)) = false := hk
              simpa using hk'
            have hq := hsame hin
            have hgv : gV l i [.i v.t, .i v.s, .i v.c] = [.i (runV l v.t v.s v.c : Int)] := by
              show [PC.i (if inV (l.take i) v.t v.s v.c = true then (runV l v.t v.s v.c : Int) else 0)] = _
              rw [if_pos hin]
            have hX : intP ((gV l i [.i v.t, .i v.s, .i v.c]).headD default) = (runV l v.t v.s v.c : Int) := by rw [hgv]; rfl
            generalize runV l v.t v.s v.c = R at hX hbp
            conv => whnf
            refine ⟨trivial, fun hg => ?_, fun hg => ?_⟩
            · have hg0 : (bestF l i).2 < intP ((gV l i [.i v.t, .i v.s, .i v.c]).headD default) := of_decide_eq_true hg
              rw [hX] at hg0
              rw [if_pos hg0] at hbp
              have hb2 : intP ((gV l i [.i v.t, .i v.s, .i v.c]).headD default) = (bestF l (i + 1)).2 := by rw [hX, hbp]
              conv => whnf
              refine ⟨?_, i + 1, hlt, ?_, rfl, rfl, ?_, ?_⟩
              · (try conv => whnf)
                (repeat' (first | exact True.intro | exact fun _ h => h | refine inR64_of ?_ ?_ | apply And.intro | refine maxLen_ge ?_)) <;> (first | omega | (dsimp only; omega))
              · omega
              all_goals repeat' (first | exact True.intro | refine leF_cons rfl ?_ ?_ | refine leS_cons rfl ?_ ?_ | (show PLe _ _ _ _; conv => whnf) | (show SLe _ _ _ _; conv => whnf) | (show PLeL _ _ _ _; conv => whnf) | apply And.intro | rfl | exact Nat.le_refl _ | exact fun _ _ => rfl | exact rowEq0 _ _)
              all_goals first | exact hq | (rw [hbp]; done) | exact hb2 | exact fun kl _ => ⟨rfl, rfl⟩ | omega | skip
            · have hg0 : ¬ (bestF l i).2 < intP ((gV l i [.i v.t, .i v.s, .i v.c]).headD default) := of_decide_eq_false hg
              rw [hX] at hg0
              rw [if_neg hg0] at hbp
              conv => whnf
              refine ⟨?_, i + 1, hlt, ?_, rfl, rfl, ?_, ?_⟩
              · (try conv => whnf)
                (repeat' (first | exact True.intro | exact fun _ h => h | refine inR64_of ?_ ?_ | apply And.intro | refine maxLen_ge ?_)) <;> (first | omega | (dsimp only; omega))
              · omega
              all_goals repeat' (first | exact True.intro | refine leF_cons rfl ?_ ?_ | refine leS_cons rfl ?_ ?_ | (show PLe _ _ _ _; conv => whnf) | (show SLe _ _ _ _; conv => whnf) | (show PLeL _ _ _ _; conv => whnf) | apply And.intro | rfl | exact Nat.le_refl _ | exact fun _ _ => rfl | exact rowEq0 _ _)
              all_goals first | exact hq | (rw [hbp]; done) | exact fun kl _ => ⟨rfl, rfl⟩ | omega | skip
        · replace hc2 := of_decide_eq_false hc2
          have hk : i = l.length := by
            have h : ¬ (i : Int) < l.length := hc2
            omega
          subst hk
          conv => whnf
          refine ⟨?_, [], ?_⟩
          · (try conv => whnf)
            (repeat' (first | exact True.intro | exact fun _ h => h | refine inR64_of ?_ ?_ | apply And.intro | refine maxLen_ge ?_)) <;> (first | omega | (dsimp only; omega))
          conv => whnf
          refine ⟨rfl, ?_, trivial, trivial⟩
          all_goals repeat' (first | exact True.intro | refine leF_cons rfl ?_ ?_ | refine leS_cons rfl ?_ ?_ | (show PLe _ _ _ _; conv => whnf) | (show SLe _ _ _ _; conv => whnf) | (show PLeL _ _ _ _; conv => whnf) | apply And.intro | rfl | exact Nat.le_refl _ | exact fun _ _ => rfl | exact rowEq0 _ _)
end Pv
end Go.Proofs.YtafnkpmoolbjjaaDoor
/- LAW 42, THE WALKS: numbers in texts. -/
set_option linter.unusedSimpArgs false
set_option linter.unusedVariables false
namespace Go.Proofs.YtafnkpmoolbjjaaDoor
namespace Pv
def c44L1 : C := (.seq (.reg [⟨(some 27), 432, none, .bi false .lss (.t 26) (.t 25)⟩])
  (.seq (.cond (.t 27) .skip (.exit 0))
  (.seq (.block 1 (.seq (.reg [⟨(some 28), 448, none, .mv (.t 26)⟩,
    ⟨(some 5), 80, none, .mv (.t 28)⟩])
  (.seq (.seq (.reg [⟨(some 29), 464, none, .mv (.t 0)⟩,
    ⟨(some 30), 480, none, .mv (.t 5)⟩,
    ⟨(some 31), 496, none, .ixs (.t 29) (.t 30)⟩,
    ⟨(some 32), 512, none, .bi false .lss (.t 31) (.c (.int .u8 48))⟩,
    ⟨(some 33), 528, none, .mv (.t 32)⟩,
    ⟨(some 34), 544, (some (33, false)), .mv (.t 0)⟩,
    ⟨(some 35), 560, (some (33, false)), .mv (.t 5)⟩,
    ⟨(some 36), 576, (some (33, false)), .ixs (.t 34) (.t 35)⟩,
    ⟨(some 37), 592, (some (33, false)), .bi false .gtr (.t 36) (.c (.int .u8 57))⟩,
    ⟨(some 38), 608, none, .pick (.t 33) (.c (.bool true)) (.t 37)⟩])
  (.cond (.t 38) (.seq (.reg [⟨(some 2), 32, none, .mv (.c (.int .i64 0))⟩,
    ⟨(some 3), 48, none, .mv (.c (.bool false))⟩])
  .ret) .skip))
  (.reg [⟨(some 39), 624, none, .mv (.t 4)⟩,
    ⟨(some 40), 640, none, .bi false .mul (.c (.int .i64 10)) (.t 39)⟩,
    ⟨(some 41), 656, none, .mv (.t 0)⟩,
    ⟨(some 42), 672, none, .mv (.t 5)⟩,
    ⟨(some 43), 688, none, .ixs (.t 41) (.t 42)⟩,
    ⟨(some 44), 704, none, .bi false .sub (.t 43) (.c (.int .u8 48))⟩,
    ⟨(some 45), 720, none, .cv false .i64 (.t 44)⟩,
    ⟨(some 46), 736, none, .bi false .add (.t 40) (.t 45)⟩,
    ⟨(some 4), 64, none, .mv (.t 46)⟩]))))
  (.reg [⟨(some 47), 752, none, .bi false .add (.t 26) (.c (.int .i64 1))⟩,
    ⟨(some 26), 416, none, .mv (.t 47)⟩]))))
def c44 : C := (.seq (.reg [⟨(some 2), 32, none, .mv (.c (.int .i64 0))⟩,
    ⟨(some 3), 48, none, .mv (.c (.bool false))⟩])
  (.seq (.seq (.reg [⟨(some 6), 96, none, .mv (.t 0)⟩,
    ⟨(some 7), 112, none, .lens (.t 6)⟩,
    ⟨(some 8), 128, none, .bi false .lss (.t 7) (.c (.int .i64 1))⟩,
    ⟨(some 9), 144, none, .mv (.t 8)⟩,
    ⟨(some 10), 160, (some (9, false)), .mv (.t 0)⟩,
    ⟨(some 11), 176, (some (9, false)), .lens (.t 10)⟩,
    ⟨(some 12), 192, (some (9, false)), .bi false .gtr (.t 11) (.c (.int .i64 8))⟩,
    ⟨(some 13), 208, none, .pick (.t 9) (.c (.bool true)) (.t 12)⟩,
    ⟨(some 14), 224, none, .mv (.t 13)⟩,
    ⟨(some 15), 240, (some (14, false)), .mv (.t 0)⟩,
    ⟨(some 16), 256, (some (14, false)), .lens (.t 15)⟩,
    ⟨(some 17), 272, (some (14, false)), .bi false .gtr (.t 16) (.c (.int .i64 1))⟩,
    ⟨(some 18), 288, (some (14, false)), .mv (.t 17)⟩,
    ⟨(some 19), 304, (some (18, true)), .mv (.t 0)⟩,
    ⟨(some 20), 320, (some (18, true)), .ixs (.t 19) (.c (.int .i64 0))⟩,
    ⟨(some 21), 336, (some (18, true)), .bi false .eql (.t 20) (.c (.int .u8 48))⟩,
    ⟨(some 22), 352, (some (14, false)), .pick (.t 18) (.t 21) (.c (.bool false))⟩,
    ⟨(some 23), 368, none, .pick (.t 14) (.c (.bool true)) (.t 22)⟩])
  (.cond (.t 23) (.seq (.reg [⟨(some 2), 32, none, .mv (.c (.int .i64 0))⟩,
    ⟨(some 3), 48, none, .mv (.c (.bool false))⟩])
  .ret) .skip))
  (.seq (.reg [⟨(some 4), 64, none, .mv (.c (.int .i64 0))⟩])
  (.seq (.seq (.reg [⟨(some 24), 384, none, .mv (.t 0)⟩,
    ⟨(some 25), 400, none, .lens (.t 24)⟩,
    ⟨(some 26), 416, none, .mv (.c (.int .i64 0))⟩])
  (.block 0 (.loop c44L1)))
  (.seq (.reg [⟨(some 48), 768, none, .mv (.t 4)⟩,
    ⟨(some 2), 32, none, .mv (.t 48)⟩,
    ⟨(some 3), 48, none, .mv (.c (.bool true))⟩])
  .ret)))))
theorem fits44 : fits Tryd.prog false Tryd.f44 1 49 [(2, none), (3, none)] = some c44.er := by kernel_rfl
def digs : Int → List UInt8 → Option Int
  | a, [] => some a
  | a, c :: cs => if c.toNat < 48 ∨ 57 < c.toNat then none else digs (10 * a + ((c.toNat : Int) - 48)) cs
def numberF (s : List UInt8) : Option Int := if s.length < 1 ∨ 8 < s.length ∨ (1 < s.length ∧ (s.getD 0 0).toNat = 48) then none else digs 0 s
theorem digs_drop {s : List UInt8} {i : Nat} (a : Int) (h : i < s.length) : digs a (s.drop i) = if (s.getD i 0).toNat < 48 ∨ 57 < (s.getD i 0).toNat then none else digs (10 * a + (((s.getD i 0).toNat : Int) - 48)) (s.drop (i + 1)) := by
  rw [List.drop_eq_getElem_cons h]
  have : s.getD i 0 = s[i] := by simp [List.getD, h]
  rw [this]; rfl
set_option maxRecDepth 100000 in
set_option maxHeartbeats 8000000 in
theorem call44 (s : List UInt8) (hs : s.length ≤ 4611686018427387904) : PureCall Tryd.prog 44 [.str s] [] ⟨.tup [.int .i64 ((numberF s).getD 0), .bool (numberF s).isSome], [], []⟩ := by
  refine pure_call mix Tryd.func44 fits44 rfl ?_
  conv => whnf
  refine ⟨?_, fun hc => ?_, fun hc => ?_⟩
  · (try conv => whnf)
    (repeat' (first | exact True.intro | exact fun _ h => h | refine inR64_of ?_ ?_ | apply And.intro | refine maxLen_ge ?_)) <;> (first | omega | decide | (dsimp only; omega) | (dsimp only [List.length_cons, List.length_nil]; omega) | (intro hg; rw [hg]; rfl) | (intro hg hh; rw [hg, hh]; rfl) | (intro hg; simp [-List.getD_eq_getElem?_getD, -Int.default_eq_zero] at hg; first | omega | (refine inR64_of ?_ ?_ <;> omega) | (constructor <;> omega)) | (simp [-List.getD_eq_getElem?_getD, -Int.default_eq_zero]; done))
  · simp only [bif_t, bif_f, decide_eq_true_eq, decide_eq_false_iff_not, Bool.not_eq_true', Bool.not_eq_false', Bool.and_eq_true, Bool.or_eq_true, Bool.and_eq_false_iff, Bool.or_eq_false_iff, beq_iff_eq, bne_iff_ne, beq_eq_false_iff_ne, bne_eq_false_iff_eq, reduceCtorEq, false_and, and_false, true_and, and_true, or_false, false_or, or_true, true_or, not_true_eq_false, not_false_eq_true, Int.toNat_zero] at hc
    have hn : numberF s = none := by unfold numberF; rw [if_pos (by omega)]
    rw [hn]
    conv => whnf
    refine ⟨?_, [], ?_⟩
    · (try conv => whnf)
      (repeat' (first | exact True.intro | exact fun _ h => h | refine inR64_of ?_ ?_ | apply And.intro | refine maxLen_ge ?_)) <;> (first | omega | (dsimp only; omega))
    conv => whnf
    refine ⟨rfl, ?_, trivial, trivial⟩
    all_goals repeat' (first | exact True.intro | refine leF_cons rfl ?_ ?_ | refine leS_cons rfl ?_ ?_ | (show PLe _ _ _ _; conv => whnf) | (show SLe _ _ _ _; conv => whnf) | (show PLeL _ _ _ _; conv => whnf) | apply And.intro | rfl | exact Nat.le_refl _ | exact fun _ _ => rfl | exact rowEq0 _ _)
  simp only [bif_t, bif_f, decide_eq_true_eq, decide_eq_false_iff_not, Bool.not_eq_true', Bool.not_eq_false', Bool.and_eq_true, Bool.or_eq_true, Bool.and_eq_false_iff, Bool.or_eq_false_iff, beq_iff_eq, bne_iff_ne, beq_eq_false_iff_ne, bne_eq_false_iff_eq, reduceCtorEq, false_and, and_false, true_and, and_true, or_false, false_or, or_true, true_or, not_true_eq_false, not_false_eq_true, Int.toNat_zero] at hc
  have hn : numberF s = digs 0 s := by unfold numberF; rw [if_neg (by omega)]
  have hl : 1 ≤ s.length ∧ s.length ≤ 8 := by omega
  rw [hn]
  clear hn hc hs
  conv => whnf
  refine ⟨?_, ?_⟩
  · (try conv => whnf)
    (repeat' (first | exact True.intro | exact fun _ h => h | refine inR64_of ?_ ?_ | apply And.intro | refine maxLen_ge ?_)) <;> (first | omega | (dsimp only; omega))
  refine LSem.loop (n := 49) mix (α := Nat × Int) (fun x => x.1 ≤ s.length ∧ digs x.2 (s.drop x.1) = digs 0 s ∧ 0 ≤ x.2 ∧ x.2 < (10 : Int) ^ x.1)
    (fun x => [(0, .str s), (4, .int .i64 x.2), (25, .int .i64 s.length), (26, .int .i64 x.1)])
    (fun x => []) (fun x => s.length - x.1) (0, 0) ?_ ?_ ?_
  · exact ⟨Nat.zero_le _, rfl, Int.le_refl _, by decide⟩
  · refine ⟨rfl, rfl, ?_, ?_⟩
    all_goals repeat' (first | exact True.intro | refine leF_cons rfl ?_ ?_ | refine leS_cons rfl ?_ ?_ | (show PLe _ _ _ _; conv => whnf) | (show SLe _ _ _ _; conv => whnf) | (show PLeL _ _ _ _; conv => whnf) | apply And.intro | rfl | exact Nat.le_refl _ | exact fun _ _ => rfl | exact rowEq0 _ _)
  · intro x hx
    obtain ⟨i, a⟩ := x
    obtain ⟨h1, h2, h3, h4⟩ := hx
    dsimp only at h1 h2 h3 h4
    have hj : ((i : Int)).toNat = i := by omega
    have hpow : (10 : Int) ^ i ≤ 10 ^ 13 := (show ∀ i : Nat, i < 14 → (10 : Int) ^ i ≤ 10 ^ 13 by decide) i (by omega)
    have hu1 : IntKind.u8.min = 0 := by decide
    have hu2 : IntKind.u8.max = 255 := by decide
    have hpow2 : (10 : Int) ^ (i + 1) = 10 * 10 ^ i := by rw [Int.pow_succ, Int.mul_comm]
    have hp13 : (10 : Int) ^ 13 = 10000000000000 := by decide
    rw [hp13] at hpow
    conv => whnf
    refine ⟨trivial, fun hc => ?_, fun hc => ?_⟩
    · replace hc := of_decide_eq_true hc
      have hlt : i < s.length := by
        have h : (i : Int) < s.length := hc
        omega
      have hd := digs_drop a hlt
      have hb : (s.getD i 0).toNat < 256 := UInt8.toNat_lt _
      conv => whnf
      refine ⟨?_, fun hc2 => ?_, fun hc2 => ?_⟩
      · (try conv => whnf)
        (repeat' (first | exact True.intro | exact fun _ h => h | refine inR64_of ?_ ?_ | apply And.intro | refine maxLen_ge ?_)) <;> (first | omega | decide | (dsimp only; omega) | (dsimp only [List.length_cons, List.length_nil]; omega) | (intro hg; rw [hg]; rfl) | (intro hg hh; rw [hg, hh]; rfl) | (intro hg; simp [-List.getD_eq_getElem?_getD, -Int.default_eq_zero] at hg; first | omega | (refine inR64_of ?_ ?_ <;> omega) | (constructor <;> omega)) | (simp [-List.getD_eq_getElem?_getD, -Int.default_eq_zero]; done))
      · simp only [bif_t, bif_f, decide_eq_true_eq, decide_eq_false_iff_not, Bool.not_eq_true', Bool.not_eq_false', Bool.and_eq_true, Bool.or_eq_true, Bool.and_eq_false_iff, Bool.or_eq_false_iff, beq_iff_eq, bne_iff_ne, beq_eq_false_iff_ne, bne_eq_false_iff_eq, reduceCtorEq, false_and, and_false, true_and, and_true, or_false, false_or, or_true, true_or, not_true_eq_false, not_false_eq_true, Int.toNat_zero] at hc2
        rw [hj] at hc2
        have hd0 : digs 0 s = none := by rw [← h2, hd, if_pos (by omega)]
        rw [hd0]
        conv => whnf
        refine ⟨?_, [], ?_⟩
        · (try conv => whnf)
          (repeat' (first | exact True.intro | exact fun _ h => h | refine inR64_of ?_ ?_ | apply And.intro | refine maxLen_ge ?_)) <;> (first | omega | (dsimp only; omega))
        conv => whnf
        refine ⟨rfl, ?_, trivial, trivial⟩
        all_goals repeat' (first | exact True.intro | refine leF_cons rfl ?_ ?_ | refine leS_cons rfl ?_ ?_ | (show PLe _ _ _ _; conv => whnf) | (show SLe _ _ _ _; conv => whnf) | (show PLeL _ _ _ _; conv => whnf) | apply And.intro | rfl | exact Nat.le_refl _ | exact fun _ _ => rfl | exact rowEq0 _ _)
      · simp only [bif_t, bif_f, decide_eq_true_eq, decide_eq_false_iff_not, Bool.not_eq_true', Bool.not_eq_false', Bool.and_eq_true, Bool.or_eq_true, Bool.and_eq_false_iff, Bool.or_eq_false_iff, beq_iff_eq, bne_iff_ne, beq_eq_false_iff_ne, bne_eq_false_iff_eq, reduceCtorEq, false_and, and_false, true_and, and_true, or_false, false_or, or_true, true_or, not_true_eq_false, not_false_eq_true, Int.toNat_zero] at hc2
        rw [hj] at hc2
        rw [if_neg (by omega)] at hd
        conv => whnf
        refine ⟨?_, (i + 1, 10 * a + (((s.getD i 0).toNat : Int) - 48)), ⟨hlt, by rw [← hd]; exact h2, ?_, ?_⟩, ?_, rfl, rfl, ?_, ?_⟩
        · (try conv => whnf)
          rw [hj]
          (repeat' (first | exact True.intro | exact fun _ h => h | refine inR64_of ?_ ?_ | apply And.intro)) <;> (first | omega | (rw [hu1]; omega) | (rw [hu2]; omega))
        · dsimp only; omega
        · dsimp only; rw [hpow2]; omega
        · dsimp only; omega
        all_goals repeat' (first | exact True.intro | refine leF_cons rfl ?_ ?_ | refine leS_cons rfl ?_ ?_ | (show PLe _ _ _ _; conv => whnf) | (show SLe _ _ _ _; conv => whnf) | (show PLeL _ _ _ _; conv => whnf) | apply And.intro | rfl | exact Nat.le_refl _ | exact fun _ _ => rfl | exact rowEq0 _ _)
        all_goals first | omega | (rw [hj]; done) | skip
    · replace hc := of_decide_eq_false hc
      have hk : i = s.length := by
        have h : ¬ (i : Int) < s.length := hc
        omega
      subst hk
      rw [← h2, List.drop_length]
      conv => whnf
      refine ⟨?_, [], ?_⟩
      · (try conv => whnf)
        (repeat' (first | exact True.intro | exact fun _ h => h | refine inR64_of ?_ ?_ | apply And.intro | refine maxLen_ge ?_)) <;> (first | omega | (dsimp only; omega))
      conv => whnf
      refine ⟨rfl, ?_, trivial, trivial⟩
      all_goals repeat' (first | exact True.intro | refine leF_cons rfl ?_ ?_ | refine leS_cons rfl ?_ ?_ | (show PLe _ _ _ _; conv => whnf) | (show SLe _ _ _ _; conv => whnf) | (show PLeL _ _ _ _; conv => whnf) | apply And.intro | rfl | exact Nat.le_refl _ | exact fun _ _ => rfl | exact rowEq0 _ _)
end Pv
end Go.Proofs.YtafnkpmoolbjjaaDoor
set_option linter.unusedSimpArgs false
set_option linter.unusedVariables false
namespace Go.Proofs.YtafnkpmoolbjjaaDoor
namespace Pv
open Go.RowKit
def IntsIn (w : World) (g : Nat) (T : TypeId) (cap : Nat) (l : List Int) : Prop :=
  ∃ (cur : Array Value) (fz : Nat × Nat), w.heap[g]? = some (.cells cur T fz) ∧ fzOff cur.size fz ∧ l.length ≤ cap ∧ cap ≤ maxLen ∧ cur.size = cap * 1 ∧ cur.toList.take (l.length * 1) = l.map (Value.int .i64)
def InPlace (P : Program) (F : FuncId) (l l' : List Int) (back : Bool) : Prop :=
  (∃ fn, P.funcs[F]? = some fn ∧ fn.body.isSome = true ∧ (fn.name == "runtime.NumGoroutine") = false) ∧
  ∀ (w : World) (g cap : Nat) (T : TypeId), IntsIn w g T cap l → Calls P F #[.slice (some ⟨g, 0, none⟩) l.length cap] w fun e w' =>
    e = .returned (if back then .slice (some ⟨g, 0, none⟩) l'.length cap else .tuple #[]) ∧ Keeps (· = g) w w' ∧ IntsIn w' g T cap l'
section
variable {P : Program} {X : Cx} {γ : Gh} {w w0 : World} {may : Nat → Prop} {a : Act} {s : PS}
theorem call_wp {wr : Bool} {o : Oper} {F : FuncId} {y : A} {p : PV} {K : Act → World → Prop} {Q : Exit → Act → World → Prop} {R : Value → World → Prop}
    (hR : Rel X w0 may a w s γ) (hc : compI P wr o = some (.call (.c (.fn (.func F) [] [])) [y])) (hv : A.val s.fr y = some p)
    (hfn : ∃ fn, P.funcs[F]? = some fn ∧ fn.body.isSome = true ∧ (fn.name == "runtime.NumGoroutine") = false)
    (hC : ∀ v, Rep X γ w p v → Calls P F #[v] w fun e w' => ∃ u, e = .returned u ∧ R u w') (hK : ∀ u w', R u w' → K (a.put o.dst u) w') : o.wp P a w K Q := by
  have H := eval_opd hR
  have hcall : ∃ cl f y' ys, o.op = .call cl ∧ cl.callee = .value f ∧ arg f = some y' ∧ mapO (fun (q : Operand × TypeId) => argT P q.2 q.1) (cl.args.toList.zip cl.argTypes.toList) = some ys ∧ cl.args.size = cl.argTypes.size ∧ y' = .c (.fn (.func F) [] []) ∧ ys = [y] := by
    revert hc
    unfold compI
    intro hc
    repeat' (split at hc)
    all_goals first
      | (cases hc; done)
      | (injection hc with hc; injection hc; done)
      | (obtain ⟨y, hy, hh⟩ := Option.map_eq_some_iff.1 hc; cases hh; done)
      | (injection hc with hc; injection hc with e1 e2
         rename_i _ cl hop _ f hcal _ _ y' ys hy hys hsz
         exact ⟨_, _, _, _, hop, hcal, hy, hys, by simpa using hsz, e1, e2⟩)
  obtain ⟨cl, f, y', ys, hop, hcal, hy, hys, hsz, rfl, rfl⟩ := hcall
  have hz : (cl.args.toList.zip cl.argTypes.toList).map (fun q => a.eval q.1) = (cl.args.map a.eval).toList := by
    have hl : cl.args.toList.length = cl.argTypes.toList.length := by simpa using hsz
    have h1 : (cl.args.toList.zip cl.argTypes.toList).map (fun q => q.1) = cl.args.toList := List.map_fst_zip (by omega)
    rw [show (fun q : Operand × TypeId => a.eval q.1) = a.eval ∘ (fun q => q.1) from rfl, ← List.map_map, h1]
    simp
  have hr1 : Rep X γ w (.fn (.func F) [] []) (a.eval f) := arg_rep H hy (by rfl)
  have hr2 : RepL X γ w [p] (cl.args.map a.eval).toList := by
    have := argsT_rep (P := P) (α := Operand × TypeId) H (fun q => q.2) (fun q => q.1) (xs := cl.args.toList.zip cl.argTypes.toList) (ys := [y]) (ps := [p]) hys (by simp only [valL, hv])
    rwa [hz] at this
  obtain ⟨v, us, hvs, hrv, hrus⟩ := hr2.cons_inv
  have hus := hrus.nil_inv
  subst hus
  obtain ⟨fn, hfn1, hbody, hname⟩ := hfn
  have hfe : ∀ fv, Rep X γ w (.fn (.func F) [] []) fv → fv = .func (.func F) #[] #[] := by
    intro fv h
    cases h with
    | fn _ _ _ vs us hvl hul h h' =>
      have e1 : vs = [] := List.eq_nil_of_length_eq_zero hvl
      have e2 : us = [] := List.eq_nil_of_length_eq_zero hul
      subst e1 e2
      rfl
  have hfe := hfe _ hr1
  have hrun : (execOp a.eval o).run P w = .ok (.enter F #[v]) w := by
    unfold execOp
    rw [hop]
    have hb : fn.body ≠ none := by intro h; rw [h] at hbody; cases hbody
    have hnm : fn.name ≠ "runtime.NumGoroutine" := by simpa using hname
    have hav : cl.args.map a.eval = #[v] := by rw [← Array.toList_inj, hvs]
    simp [resolve, hcal, hfe, Deferred.ofValue, invoke, callFunc, hfn1, hb, hnm, hav]
  unfold Oper.wp
  rw [hrun]
  simp only [Oper.upon]
  refine (hC v hrv).mono ?_
  rintro e w' ⟨u, rfl, hu⟩
  exact hK u w' hu
/-! ### a row of numbers -/
theorem row_ints {ge : GE} {τ e : Nat} {f : Nat → List PV} {l : List Int} (h : RepS X γ w ge (.row τ e 1 l.length f)) (hf : RowEq l.length f (fl (fun n : Int => [PV.int .i64 n]) l)) (hl : 0 < l.length) :
    ∃ g cap, ge.hdr = .slice (some ⟨g, 0, none⟩) l.length cap ∧ ge.blk = some g ∧ ge.z = 1 ∧ IntsIn w g e cap l := by
  obtain ⟨vs, h1, h2, h3, h4, h5⟩ := h.rows
  have hvs : vs = l.map (Value.int .i64) := by
    refine List.ext_getElem? fun j => ?_
    have hlen : vs.length = l.length := by rw [h5.len, Nat.mul_one]
    by_cases hj : j < l.length
    · have hc : (f j)[0]? = some (.int .i64 (l.getD j default)) := by rw [hf j hj]; rfl
      have hu : vs[j]? = some (vs[j]'(by omega)) := List.getElem?_eq_getElem (by omega)
      have := h5.rep j 0 _ (vs[j]'(by omega)) hj hc (by rw [Nat.mul_one, Nat.add_zero]; exact hu)
      have hi : vs[j]'(by omega) = .int .i64 (l.getD j default) := by
        have h6 : Rep X γ w (.int .i64 (l.getD j default)) (vs[j]'(by omega)) := this
        exact h6.int_inv
      rw [hu, hi, List.getElem?_map, getD_some hj]; rfl
    · rw [List.getElem?_eq_none (by omega), List.getElem?_eq_none (by simp; omega)]
  subst hvs
  rcases h4.2 with ⟨_, h0⟩ | ⟨g, cap, cur, fz, hh, hg, hfz, hnc, hcm, hsz, htk⟩
  · omega
  · exact ⟨g, cap, hh, by rw [h2, hh]; rfl, h1, cur, fz, hg, hfz, hnc, hcm, hsz, htk⟩
theorem ints_row {w' : World} {γ' : Gh} {e g cap : Nat} {l : List Int} (h : IntsIn w' g e cap l) :
    RepS X γ' w' ⟨some g, .slice (some ⟨g, 0, none⟩) l.length cap, 1⟩ (.row 0 e 1 l.length (fl (fun n : Int => [PV.int .i64 n]) l)) := by
  obtain ⟨cur, fz, hg, hfz, hnc, hcm, hsz, htk⟩ := h
  refine ⟨l.map (Value.int .i64), rfl, rfl, rfl, ⟨by simp, .inr ⟨g, cap, cur, fz, rfl, hg, hfz, hnc, hcm, hsz, htk⟩⟩, fun u hu => ?_, fun i hi => rfl, fun i hi c hc => ?_, fun i j c u hi hc hu => ?_⟩
  · obtain ⟨n, _, rfl⟩ := List.mem_map.1 hu; rfl
  · have : c = .int .i64 (l.getD i default) := by simpa [fl] using hc
    subst this; rfl
  · have hj : j = 0 := by
      have := (List.getElem?_eq_some_iff.1 hc).1
      simp [fl] at this; omega
    subst hj
    have : c = .int .i64 (l.getD i default) := by
      have h0 : some (PV.int .i64 (l.getD i default)) = some c := hc
      injection h0 with h0; exact h0.symm
    subst this
    rw [Nat.mul_one, Nat.add_zero, List.getElem?_map, getD_some hi] at hu
    injection hu with hu; subst hu
    exact .int _ _
end
section
variable {P : Program} {wr : Bool} {np : Nat} {Q : Lv → PS → Prop}
theorem ents_put {X : Cx} {w0 w w' : World} {may : Nat → Prop} {a : Act} {s s' : PS} {γ γ' : Gh} {E : Eff} {v : Value} {d : Nat} (h : Rel X w0 may a w s γ) (hE : EffOK X γ w s.st E v w' γ' s'.st) (hn : s'.n = s.n) (hd : d < s.n)
    (hfr : s'.fr = upd (voidF E.kill s.fr) d E.val) : Rel X w0 may (a.put (some d) v) w' s' γ' := by
  refine h.after hE hn fun t p hp => ?_
  rw [hfr] at hp
  by_cases ht : t = d
  · subst ht
    rw [upd_same] at hp; injection hp with hp; subst hp
    exact .inl ⟨rfl, hd, hE.val⟩
  · rw [upd_ne _ _ ht] at hp
    simp only [voidF] at hp
    obtain ⟨q, hq, rfl⟩ := Option.map_eq_some_iff.1 hp
    exact .inr ⟨fun h => ht (by injection h with h; exact h.symm), q, hq, rfl⟩
def inplaceSt (n : Nat) (fr : Nat → Option PV) (st : Nat → Option SE) (log : Nat → Option LogE) (ta tb r e : Nat) (l' : List Int) (back : Bool) : PS :=
  match back with
  | false => ⟨n, upd (upd fr ta (.os r)) tb (.tup []), upd st r (.row 0 e 1 l'.length (fl (fun n : Int => [PV.int .i64 n]) l')), True, log⟩
  | true => ⟨n, upd (voidF [r] (upd fr ta (.os r))) tb (.os r), upd (voidS [r] st) r (.row 0 e 1 l'.length (fl (fun n : Int => [PV.int .i64 n]) l')), True, log⟩
theorem LSem.inplace {F : FuncId} {l l' : List Int} {back : Bool} (hF : InPlace P F l l' back) (hl : 0 < l.length) (hl' : back = false → l'.length = l.length)
    {n : Nat} {fr : Nat → Option PV} {st : Nat → Option SE} {log : Nat → Option LogE} {slot ta ia tb ib r τ e : Nat} {f : Nat → List PV} {rest : List Ins}
    (h1 : fr slot = some (.os r)) (h2 : st r = some (.row τ e 1 l.length f)) (h3 : RowEq l.length f (fl (fun n : Int => [PV.int .i64 n]) l)) (ha : Nat.blt ta n = true) (hb : Nat.blt tb n = true)
    (hK : evK (PureCall P) false 2 rest (inplaceSt n fr st log ta tb r e l' back) (fun s' => Q .nrm s')) :
    LSem P wr np (.reg (⟨some ta, ia, none, .mv (.t slot)⟩ :: ⟨some tb, ib, none, .call (.c (.fn (.func F) [] [])) [.t ta]⟩ :: rest)) Q ⟨n, fr, st, True, log⟩ := by
  intro hQ code hc X w0 may a w γ hX hR
  have hcode : ∃ id ops, code = .region id ops false ∧ mapO (compO P wr ops) ops.toList = some (⟨some ta, ia, none, .mv (.t slot)⟩ :: ⟨some tb, ib, none, .call (.c (.fn (.func F) [] [])) [.t ta]⟩ :: rest) := by
    cases code with
    | region id ops dr =>
      cases dr with
      | false =>
        simp only [comp, C.er] at hc
        split at hc
        · rename_i hm
          simp only [Option.some.injEq, C.reg.injEq] at hc
          subst hc
          exact ⟨id, ops, rfl, hm⟩
        · cases hc
      | true => simp only [comp, C.er] at hc; (repeat' (split at hc)) <;> cases hc
    | _ => simp only [comp, C.er] at hc <;> (repeat' (split at hc)) <;> simp_all
  obtain ⟨id, ops, rfl, hm⟩ := hcode
  obtain ⟨cr, s3, hev, hQ3⟩ := evK_evL hK
  have hok3 := hQ _ _ hQ3
  refine wp_region ?_
  have hlen : ops.size = 2 + rest.length := by have := mapO_length hm; simp at this; omega
  have hget : ∀ k o, ops[k]? = some o → ∃ x, (⟨some ta, ia, none, .mv (.t slot)⟩ :: ⟨some tb, ib, none, .call (.c (.fn (.func F) [] [])) [.t ta]⟩ :: rest : List Ins)[k]? = some x ∧ compO P wr ops o = some x := fun k o hk => comp_ins hm k o hk
  have o0 : ops[0]? = some (ops[0]'(by omega)) := Array.getElem?_eq_getElem (by omega)
  have o1 : ops[1]? = some (ops[1]'(by omega)) := Array.getElem?_eq_getElem (by omega)
  obtain ⟨x0, hx0, hc0⟩ := hget 0 _ o0
  obtain ⟨x1, hx1, hc1⟩ := hget 1 _ o1
  simp only [List.getElem?_cons_zero, Option.some.injEq] at hx0
  simp only [List.getElem?_cons_succ, List.getElem?_cons_zero, Option.some.injEq] at hx1
  subst hx0 hx1
  have hrange : List.range ops.size = 0 :: 1 :: (num 2 rest).map (·.1) := by
    rw [num_fst, hlen, List.range_eq_range', Nat.add_comm 2, List.range'_succ, List.range'_succ]
  rw [hrange, wpOps_cons]
  refine step_sound (lg := false) (c := default) (i := 0) (s' := ⟨n, upd fr ta (.os r), st, True, log⟩) o0 hR hc0 ?_ trivial fun a1 w1 γ1 hR1 => ?_
  · simp [stepI, guardV, I.opr, valL, A.val, h1, stripI, stripS, PV.isCnd, I.acc, getL, eff, eMv, PV.topV, Eff.pure, logO, logCs, okO, newSt, newFr, PV.norm, ha]
  rw [wpOps_cons]
  obtain ⟨hg1, hi1, hd1⟩ := compO_parts hc1
  unfold wpOp
  rw [o1]
  simp only
  rw [guard_none hg1 rfl, if_pos rfl]
  refine .inl ?_
  obtain ⟨hfn, hC⟩ := hF
  have hgr : ∃ ge, γ1 r = some ge := by
    have := hR1.st.dom r
    simp only [h2] at this
    exact Option.isSome_iff_exists.1 this
  obtain ⟨ge, hge⟩ := hgr
  obtain ⟨g, cap, hhdr, hblk, hz, hin⟩ := row_ints (hR1.st.at_ r ge _ hge h2) h3 hl
  have hnd : o1 = o1 := rfl
  refine call_wp (p := .os r) (R := fun u w' => u = (if back then .slice (some ⟨g, 0, none⟩) l'.length cap else .tuple #[]) ∧ Keeps (· = g) w1 w' ∧ IntsIn w' g e cap l') hR1 hi1 (by simp only [A.val]; exact upd_same _ _ _) hfn (fun v hv => ?_) (fun u w' hu => ?_)
  · obtain ⟨ge', hge', rfl⟩ := os_inv hv
    rw [hge] at hge'; injection hge' with hge'; subst hge'
    rw [hhdr]
    refine (hC w1 g cap e hin).mono ?_
    rintro ev w' ⟨he, hk, hi⟩
    exact ⟨_, he, rfl, hk, hi⟩
  · obtain ⟨rfl, hk, hi⟩ := hu
    have hdst : (ops[1]'(by omega)).dst = some tb := hd1.symm
    rw [hdst]
    have hRel : ∃ γ2, Rel X w0 may (a1.put (some tb) (if back then .slice (some ⟨g, 0, none⟩) l'.length cap else .tuple #[])) w' (inplaceSt n fr st log ta tb r e l' back) γ2 := by
      cases back with
      | false =>
        have hll := hl' rfl
        refine ⟨γ1, ents_put (E := ⟨.tup [], [], [], [], [], []⟩) hR1 ?_ rfl (by simpa [Nat.blt_eq] using hb) (by simp [inplaceSt, voidF_nil])⟩
        have h0 := EffOK.write (E := ⟨.junk, [], [], [], [], []⟩) (v := .tuple #[]) (e := .row 0 e 1 l'.length (fl (fun n : Int => [PV.int .i64 n]) l')) hR1.st hge hblk h2 rfl hk (fun _ => ?_) rfl (fun l hl => by cases hl)
        · exact ⟨.tup [] [] rfl (fun k c u hk => by simp at hk), h0.old, h0.sto, h0.keeps, h0.ownE, h0.box, h0.bld⟩
        · have := ints_row (X := X) (γ' := γ1) hi
          rw [hll] at this ⊢
          have hge2 : ge = ⟨some g, .slice (some ⟨g, 0, none⟩) l.length cap, 1⟩ := by cases ge; simp_all
          rw [hge2]; exact this
      | true =>
        refine ⟨upd γ1 r ⟨some g, .slice (some ⟨g, 0, none⟩) l'.length cap, 1⟩, ents_put (E := ⟨.os r, [], [], [], [r], []⟩) hR1 ?_ rfl (by simpa [Nat.blt_eq] using hb) (by simp [inplaceSt])⟩
        refine EffOK.app (ge' := ⟨some g, .slice (some ⟨g, 0, none⟩) l'.length cap, 1⟩) hR1.st hR1.hX hge h2 (fun l hl => by cases hl) rfl (hk.mono fun i _ h => by rw [hblk, h]) (fun b hb => .inl (by rw [hblk]; exact hb)) (fun b hb => ?_) (fun _ => ints_row hi) (.os r _ (upd_same _ _ _) rfl rfl)
        · injection hb with hb; subst hb
          obtain ⟨cur, _, hg, _⟩ := hi
          exact (Array.getElem?_eq_some_iff.1 hg).1
    obtain ⟨γ2, hR2⟩ := hRel
    exact reg_sound (l := num 2 rest) (fun p hp => by
      obtain ⟨hg0, hg⟩ := num_get rest 2 p hp
      have hlt := (List.getElem?_eq_some_iff.1 hg).1
      have ho : ops[p.1]? = some (ops[p.1]'(by omega)) := Array.getElem?_eq_getElem (by omega)
      obtain ⟨x, hx, hco⟩ := hget _ _ ho
      rw [show p.1 = (p.1 - 2) + 2 by omega] at hx
      simp only [List.getElem?_cons_succ] at hx
      rw [hx] at hg
      injection hg with hg; subst hg
      exact ⟨_, ho, hco⟩) hR2 hev hok3 (fun a' w' γ' hR' => ⟨_, _, _, rfl, hQ3, hR'⟩)
end
end Pv
end Go.Proofs.YtafnkpmoolbjjaaDoor
