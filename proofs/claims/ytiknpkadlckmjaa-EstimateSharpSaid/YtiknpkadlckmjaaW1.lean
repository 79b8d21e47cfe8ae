/- LAW 29, THE WALKS, 1: what the chapter's functions compute: said of plain values. -/
import Derived.Test.YtiknpkadlckmjaaPv23
import Derived.Test.YtiknpkadlckmjaaRows
namespace Go.Proofs.Ytiknpkadlckmjaa
namespace Pv

structure Me where
  t : Int
  v : Int
  o : Int
  deriving Inhabited, DecidableEq
structure Bo where
  lo : Int
  hi : Int
  deriving Inhabited, DecidableEq
structure Ck where
  lo : Int
  hi : Int
  j : Int
  s : Int
  deriving Inhabited, DecidableEq
def eMe (m : Me) : List PV := [.int .i64 m.t, .int .i64 m.v, .int .i64 m.o]
def eBo (b : Bo) : List PV := [.int .i64 b.lo, .int .i64 b.hi]
def eCk (c : Ck) : List PV := [.int .i64 c.lo, .int .i64 c.hi, .int .i64 c.j, .int .i64 c.s]

theorem mix : Try.prog.follows .mixedOrders = true := by kernel_rfl
def c37 : C := (.seq (.reg [⟨(some 4), 64, none, .mv (.c (.int .i64 0))⟩])
  (.seq (.reg [⟨(some 5), 80, none, .mv (.t 0)⟩,
    ⟨(some 6), 96, none, .mv (.t 1)⟩,
    ⟨(some 7), 112, none, .bi false .sub (.t 5) (.t 6)⟩,
    ⟨(some 8), 128, none, .mv (.t 1)⟩,
    ⟨(some 9), 144, none, .mv (.t 0)⟩,
    ⟨(some 10), 160, none, .bi false .sub (.t 8) (.t 9)⟩,
    ⟨(some 11), 176, none, .mx [(.t 7), (.t 10)]⟩,
    ⟨(some 4), 64, none, .mv (.t 11)⟩])
  .ret))
def c36 : C := (.seq (.reg [⟨(some 4), 64, none, .bx 2 (.t 0)⟩,
    ⟨(some 5), 80, none, .bx 3 (.t 1)⟩,
    ⟨(some 6), 96, none, .bx 4 (.t 2)⟩,
    ⟨(some 8), 128, none, .al [(.int .i64 0), (.int .i64 0)]⟩])
  (.seq (.reg [⟨(some 11), 176, none, .fa 0 (.t 5)⟩,
    ⟨(some 12), 192, none, .ld 1 false (.t 11)⟩,
    ⟨(some 13), 208, none, .mv (.t 3)⟩,
    ⟨(some 14), 224, none, .bi false .sub (.t 12) (.t 13)⟩,
    ⟨(some 9), 144, none, .mv (.t 14)⟩])
  (.seq (.reg [⟨(some 15), 240, none, .fa 2 (.t 5)⟩,
    ⟨(some 16), 256, none, .ld 1 false (.t 15)⟩,
    ⟨(some 17), 272, none, .fa 2 (.t 6)⟩,
    ⟨(some 18), 288, none, .ld 1 false (.t 17)⟩,
    ⟨(some 19), 304, none, .mv (.t 9)⟩,
    ⟨(some 20), 320, none, .mv (.t 9)⟩,
    ⟨(some 21), 336, none, .un false .neg (.t 20)⟩,
    ⟨(some 22), 352, none, .mx [(.t 19), (.t 21)]⟩,
    ⟨(some 23), 368, none, .bi false .mul (.t 18) (.t 22)⟩,
    ⟨(some 24), 384, none, .bi false .add (.t 16) (.t 23)⟩,
    ⟨(some 10), 160, none, .mv (.t 24)⟩])
  (.seq (.reg [⟨(some 25), 400, none, .fa 0 (.t 4)⟩,
    ⟨(some 26), 416, none, .ld 1 false (.t 25)⟩,
    ⟨(some 27), 432, none, .fa 1 (.t 5)⟩,
    ⟨(some 28), 448, none, .ld 1 false (.t 27)⟩,
    ⟨(some 29), 464, none, .mv (.t 10)⟩,
    ⟨(some 30), 480, none, .bi false .sub (.t 28) (.t 29)⟩,
    ⟨(some 31), 496, none, .mx [(.t 26), (.t 30)]⟩,
    ⟨(some 32), 512, none, .fa 1 (.t 4)⟩,
    ⟨(some 33), 528, none, .ld 1 false (.t 32)⟩,
    ⟨(some 34), 544, none, .fa 1 (.t 5)⟩,
    ⟨(some 35), 560, none, .ld 1 false (.t 34)⟩,
    ⟨(some 36), 576, none, .mv (.t 10)⟩,
    ⟨(some 37), 592, none, .bi false .add (.t 35) (.t 36)⟩,
    ⟨(some 38), 608, none, .mn [(.t 33), (.t 37)]⟩,
    ⟨(some 39), 624, none, .bd [(.int .i64 0), (.int .i64 0)] [(0, 1, (.t 31)), (1, 1, (.t 38))]⟩,
    ⟨none, 0, none, .st 2 (.t 8) (.t 39)⟩])
  .ret))))
def c31L1 : C := (.seq (.seq (.reg [⟨(some 18), 288, none, .mv (.t 8)⟩,
    ⟨(some 19), 304, none, .mv (.t 9)⟩,
    ⟨(some 20), 320, none, .bi false .leq (.t 18) (.t 19)⟩])
  (.cond (.t 20) .skip (.exit 0)))
  (.seq (.block 1 (.drw [⟨(some 25), 400, none, .ld 2 true (.t 7)⟩,
    ⟨(some 26), 416, none, .mv (.t 0)⟩,
    ⟨(some 27), 432, none, .mv (.t 8)⟩,
    ⟨(some 28), 448, none, .ia 3 (.t 26) (.t 27)⟩,
    ⟨(some 29), 464, none, .ld 3 true (.t 28)⟩,
    ⟨(some 30), 480, none, .ld 4 true (.t 4)⟩,
    ⟨(some 31), 496, none, .mv (.t 2)⟩,
    ⟨(some 32), 512, none, .call (.c (.fn (.func 36) [] [])) [(.t 25), (.t 29), (.t 30), (.t 31)]⟩,
    ⟨(some 33), 528, none, .mv (.t 0)⟩,
    ⟨(some 34), 544, none, .mv (.t 9)⟩,
    ⟨(some 35), 560, none, .ia 3 (.t 33) (.t 34)⟩,
    ⟨(some 36), 576, none, .ld 3 true (.t 35)⟩,
    ⟨(some 37), 592, none, .ld 4 true (.t 4)⟩,
    ⟨(some 38), 608, none, .mv (.t 2)⟩,
    ⟨(some 39), 624, none, .call (.c (.fn (.func 36) [] [])) [(.t 32), (.t 36), (.t 37), (.t 38)]⟩,
    ⟨none, 0, none, .st 2 (.t 7) (.t 39)⟩]
    [(0, 1, 25), (0, 2, 25), (0, 3, 25), (0, 4, 25), (0, 5, 25), (0, 6, 25), (0, 8, 25), (0, 9, 25), (0, 10, 25), (0, 11, 25), (0, 12, 25), (0, 13, 25), (1, 2, 26), (1, 5, 26), (1, 6, 26), (1, 8, 26), (1, 9, 26), (1, 10, 26), (1, 11, 26), (1, 12, 26), (1, 13, 26), (2, 5, 27), (2, 6, 27), (2, 8, 27), (2, 9, 27), (2, 10, 27), (2, 11, 27), (2, 12, 27), (2, 13, 27), (3, 5, 28), (3, 6, 28), (3, 8, 28), (3, 9, 28), (3, 10, 28), (3, 11, 28), (3, 12, 28), (3, 13, 28), (4, 5, 29), (4, 6, 29), (4, 8, 29), (4, 9, 29), (4, 10, 29), (4, 11, 29), (4, 12, 29), (4, 13, 29), (5, 6, 30), (5, 8, 30), (5, 9, 30), (5, 10, 30), (5, 11, 30), (5, 12, 30), (5, 13, 30), (6, 8, 31), (6, 9, 31), (6, 10, 31), (6, 11, 31), (6, 12, 31), (6, 13, 31), (7, 8, 32), (7, 9, 32), (7, 10, 32), (7, 11, 32), (7, 12, 32), (7, 13, 32), (8, 9, 33), (8, 12, 33), (8, 13, 33), (9, 12, 34), (9, 13, 34), (10, 12, 35), (10, 13, 35), (11, 12, 36), (11, 13, 36), (12, 13, 37)]))
  (.reg [⟨(some 21), 336, none, .mv (.t 8)⟩,
    ⟨(some 22), 352, none, .bi false .add (.t 21) (.c (.int .i64 1))⟩,
    ⟨(some 23), 368, none, .mv (.t 9)⟩,
    ⟨(some 24), 384, none, .bi false .sub (.t 23) (.c (.int .i64 1))⟩,
    ⟨(some 8), 128, none, .mv (.t 22)⟩,
    ⟨(some 9), 144, none, .mv (.t 24)⟩])))
def c31 : C := (.seq (.reg [⟨(some 4), 64, none, .bx 4 (.t 1)⟩,
    ⟨(some 6), 96, none, .al [(.int .i64 0), (.int .i64 0)]⟩])
  (.seq (.reg [⟨(some 10), 160, none, .fa 0 (.t 4)⟩,
    ⟨(some 11), 176, none, .ld 1 false (.t 10)⟩,
    ⟨(some 12), 192, none, .fa 1 (.t 4)⟩,
    ⟨(some 13), 208, none, .ld 1 false (.t 12)⟩,
    ⟨(some 14), 224, none, .bd [(.int .i64 0), (.int .i64 0)] [(0, 1, (.t 11)), (1, 1, (.t 13))]⟩,
    ⟨(some 7), 112, none, .al [(.int .i64 0), (.int .i64 0)]⟩,
    ⟨none, 0, none, .st 2 (.t 7) (.t 14)⟩])
  (.seq (.seq (.reg [⟨(some 15), 240, none, .mv (.t 0)⟩,
    ⟨(some 16), 256, none, .len (.t 15)⟩,
    ⟨(some 17), 272, none, .bi false .sub (.t 16) (.c (.int .i64 1))⟩,
    ⟨(some 8), 128, none, .mv (.c (.int .i64 0))⟩,
    ⟨(some 9), 144, none, .mv (.t 17)⟩])
  (.block 0 (.loop c31L1)))
  (.seq (.reg [⟨(some 40), 640, none, .ld 2 true (.t 7)⟩,
    ⟨none, 0, none, .st 2 (.t 6) (.t 40)⟩])
  .ret))))
def c30 : C := (.seq (.reg [⟨(some 1), 16, none, .bx 4 (.t 0)⟩,
    ⟨(some 2), 32, none, .mv (.c (.int .i64 0))⟩])
  (.seq (.seq (.reg [⟨(some 3), 48, none, .fa 0 (.t 1)⟩,
    ⟨(some 4), 64, none, .ld 1 false (.t 3)⟩,
    ⟨(some 5), 80, none, .bi false .lss (.t 4) (.c (.int .i64 0))⟩,
    ⟨(some 6), 96, none, .mv (.t 5)⟩,
    ⟨(some 7), 112, (some (6, false)), .fa 0 (.t 1)⟩,
    ⟨(some 8), 128, (some (6, false)), .ld 1 false (.t 7)⟩,
    ⟨(some 9), 144, (some (6, false)), .fa 1 (.t 1)⟩,
    ⟨(some 10), 160, (some (6, false)), .ld 1 false (.t 9)⟩,
    ⟨(some 11), 176, (some (6, false)), .bi false .gtr (.t 8) (.t 10)⟩,
    ⟨(some 12), 192, none, .pick (.t 6) (.c (.bool true)) (.t 11)⟩,
    ⟨(some 13), 208, none, .mv (.t 12)⟩,
    ⟨(some 14), 224, (some (13, false)), .fa 1 (.t 1)⟩,
    ⟨(some 15), 240, (some (13, false)), .ld 1 false (.t 14)⟩,
    ⟨(some 16), 256, (some (13, false)), .bi false .gtr (.t 15) (.c (.int .i64 274877906944))⟩,
    ⟨(some 17), 272, none, .pick (.t 13) (.c (.bool true)) (.t 16)⟩,
    ⟨(some 18), 288, none, .mv (.t 17)⟩,
    ⟨(some 19), 304, (some (18, false)), .fa 2 (.t 1)⟩,
    ⟨(some 20), 320, (some (18, false)), .ld 1 false (.t 19)⟩,
    ⟨(some 21), 336, (some (18, false)), .bi false .lss (.t 20) (.c (.int .i64 0))⟩,
    ⟨(some 22), 352, none, .pick (.t 18) (.c (.bool true)) (.t 21)⟩,
    ⟨(some 23), 368, none, .mv (.t 22)⟩,
    ⟨(some 24), 384, (some (23, false)), .fa 2 (.t 1)⟩,
    ⟨(some 25), 400, (some (23, false)), .ld 1 false (.t 24)⟩,
    ⟨(some 26), 416, (some (23, false)), .bi false .gtr (.t 25) (.c (.int .i64 274877906944))⟩,
    ⟨(some 27), 432, none, .pick (.t 23) (.c (.bool true)) (.t 26)⟩])
  (.cond (.t 27) (.seq (.reg [⟨(some 2), 32, none, .mv (.c (.int .i64 1))⟩])
  .ret) .skip))
  (.seq (.reg [⟨(some 2), 32, none, .mv (.c (.int .i64 0))⟩])
  .ret)))
def c32 : C := (.seq (.reg [⟨(some 4), 64, none, .mv (.c (.bool false))⟩])
  (.seq (.reg [⟨(some 5), 80, none, .mv (.t 0)⟩,
    ⟨(some 6), 96, none, .bi false .geq (.t 5) (.c (.int .i64 0))⟩,
    ⟨(some 7), 112, none, .mv (.t 6)⟩,
    ⟨(some 8), 128, (some (7, true)), .mv (.t 0)⟩,
    ⟨(some 9), 144, (some (7, true)), .mv (.t 1)⟩,
    ⟨(some 10), 160, (some (7, true)), .bi false .leq (.t 8) (.t 9)⟩,
    ⟨(some 11), 176, none, .pick (.t 7) (.t 10) (.c (.bool false))⟩,
    ⟨(some 4), 64, none, .mv (.t 11)⟩])
  .ret))
def c33L1 : C := (.seq (.reg [⟨(some 19), 304, none, .bi false .lss (.t 18) (.t 17)⟩])
  (.seq (.cond (.t 19) .skip (.exit 0))
  (.seq (.block 1 (.seq (.reg [⟨(some 20), 320, none, .ia 3 (.t 16) (.t 18)⟩,
    ⟨(some 21), 336, none, .ld 3 true (.t 20)⟩,
    ⟨(some 9), 144, none, .al [(.int .i64 0), (.int .i64 0), (.int .i64 0)]⟩,
    ⟨none, 0, none, .st 3 (.t 9) (.t 21)⟩])
  (.seq (.drw [⟨(some 22), 352, none, .fa 2 (.t 9)⟩,
    ⟨(some 23), 368, none, .ld 1 false (.t 22)⟩,
    ⟨(some 24), 384, none, .fa 2 (.t 4)⟩,
    ⟨(some 25), 400, none, .ld 1 false (.t 24)⟩,
    ⟨(some 26), 416, none, .fa 0 (.t 9)⟩,
    ⟨(some 27), 432, none, .ld 1 false (.t 26)⟩,
    ⟨(some 28), 448, none, .mv (.t 2)⟩,
    ⟨(some 29), 464, none, .call (.c (.fn (.func 37) [] [])) [(.t 27), (.t 28)]⟩,
    ⟨(some 30), 480, none, .bi false .mul (.t 25) (.t 29)⟩,
    ⟨(some 31), 496, none, .bi false .add (.t 23) (.t 30)⟩,
    ⟨(some 10), 160, none, .mv (.t 31)⟩]
    [(0, 2, 22), (0, 3, 22), (0, 4, 22), (0, 5, 22), (0, 6, 22), (0, 7, 22), (0, 8, 22), (1, 2, 23), (1, 3, 23), (1, 4, 23), (1, 5, 23), (1, 6, 23), (1, 7, 23), (1, 8, 23), (2, 4, 24), (2, 5, 24), (2, 6, 24), (2, 7, 24), (3, 4, 25), (3, 5, 25), (3, 6, 25), (3, 7, 25), (4, 6, 26), (5, 6, 27)])
  (.seq (.reg [⟨(some 32), 512, none, .fa 0 (.t 7)⟩,
    ⟨(some 33), 528, none, .ld 1 false (.t 32)⟩,
    ⟨(some 34), 544, none, .fa 1 (.t 9)⟩,
    ⟨(some 35), 560, none, .ld 1 false (.t 34)⟩,
    ⟨(some 36), 576, none, .mv (.t 10)⟩,
    ⟨(some 37), 592, none, .bi false .sub (.t 35) (.t 36)⟩,
    ⟨(some 38), 608, none, .mx [(.t 33), (.t 37)]⟩,
    ⟨(some 39), 624, none, .fa 0 (.t 7)⟩,
    ⟨none, 0, none, .st 1 (.t 39) (.t 38)⟩])
  (.reg [⟨(some 40), 640, none, .fa 1 (.t 7)⟩,
    ⟨(some 41), 656, none, .ld 1 false (.t 40)⟩,
    ⟨(some 42), 672, none, .fa 1 (.t 9)⟩,
    ⟨(some 43), 688, none, .ld 1 false (.t 42)⟩,
    ⟨(some 44), 704, none, .mv (.t 10)⟩,
    ⟨(some 45), 720, none, .bi false .add (.t 43) (.t 44)⟩,
    ⟨(some 46), 736, none, .mn [(.t 41), (.t 45)]⟩,
    ⟨(some 47), 752, none, .fa 1 (.t 7)⟩,
    ⟨none, 0, none, .st 1 (.t 47) (.t 46)⟩])))))
  (.reg [⟨(some 48), 768, none, .bi false .add (.t 18) (.c (.int .i64 1))⟩,
    ⟨(some 18), 288, none, .mv (.t 48)⟩]))))
def c33 : C := (.seq (.reg [⟨(some 4), 64, none, .bx 4 (.t 1)⟩,
    ⟨(some 6), 96, none, .al [(.int .i64 0), (.int .i64 0)]⟩])
  (.seq (.reg [⟨(some 11), 176, none, .fa 0 (.t 4)⟩,
    ⟨(some 12), 192, none, .ld 1 false (.t 11)⟩,
    ⟨(some 13), 208, none, .fa 1 (.t 4)⟩,
    ⟨(some 14), 224, none, .ld 1 false (.t 13)⟩,
    ⟨(some 15), 240, none, .bd [(.int .i64 0), (.int .i64 0)] [(0, 1, (.t 12)), (1, 1, (.t 14))]⟩,
    ⟨(some 7), 112, none, .al [(.int .i64 0), (.int .i64 0)]⟩,
    ⟨none, 0, none, .st 2 (.t 7) (.t 15)⟩])
  (.seq (.seq (.reg [⟨(some 16), 256, none, .mv (.t 0)⟩,
    ⟨(some 17), 272, none, .len (.t 16)⟩,
    ⟨(some 18), 288, none, .mv (.c (.int .i64 0))⟩])
  (.block 0 (.loop c33L1)))
  (.seq (.reg [⟨(some 49), 784, none, .ld 2 true (.t 7)⟩,
    ⟨none, 0, none, .st 2 (.t 6) (.t 49)⟩])
  .ret))))
theorem fits37 : fits Try.prog false Try.f37 2 12 [(4, none)] = some c37.er := by kernel_rfl
theorem fits36 : fits Try.prog false Try.f36 4 40 [(8, some (2, true))] = some c36.er := by kernel_rfl
theorem fits31 : fits Try.prog false Try.f31 3 41 [(6, some (2, true))] = some c31.er := by kernel_rfl
theorem fits30 : fits Try.prog false Try.f30 1 28 [(2, none)] = some c30.er := by kernel_rfl
theorem fits32 : fits Try.prog false Try.f32 2 12 [(4, none)] = some c32.er := by kernel_rfl

theorem call37 (a b : Int) (h1 : inR .i64 (a - b)) (h2 : inR .i64 (b - a)) : PureCall Try.prog 37 [.int .i64 a, .int .i64 b] [] ⟨.int .i64 (mx (a - b) (b - a)), [], []⟩ := by
  refine pure_call mix Try.func37 fits37 rfl ?_
  conv => whnf
  refine ⟨⟨⟨trivial, h1⟩, h2⟩, [], ?_⟩
  conv => whnf
  refine ⟨rfl, ?_, trivial, trivial⟩
  conv => whnf
  exact ⟨rfl, rfl⟩

/-- The step of a measure from a time on is known to be small. -/
def Near (m : Me) (c : Ck) (time : Int) : Prop :=
  -16777216 ≤ m.t - time ∧ m.t - time ≤ 16777216 ∧ 0 ≤ m.v ∧ m.v ≤ 274877906944 ∧ 0 ≤ m.o ∧ m.o ≤ 274877906944 ∧ 0 ≤ c.j ∧ c.j ≤ 274877906944

def reach (m : Me) (c : Ck) (time : Int) : Int := m.o + c.j * mx (m.t - time) (0 - (m.t - time))
def meetF (b : Bo) (m : Me) (c : Ck) (time : Int) : Bo := ⟨mx b.lo (m.v - reach m c time), mn b.hi (m.v + reach m c time)⟩

theorem reach_rng {m : Me} {c : Ck} {time : Int} (h : Near m c time) : 0 ≤ c.j * mx (m.t - time) (0 - (m.t - time)) ∧ c.j * mx (m.t - time) (0 - (m.t - time)) ≤ 4611686018427387904 := by
  obtain ⟨h1, h2, _, _, _, _, h7, h8⟩ := h
  have : 0 ≤ mx (m.t - time) (0 - (m.t - time)) ∧ mx (m.t - time) (0 - (m.t - time)) ≤ 16777216 := by rw [mx_eq]; omega
  exact mul_rng h7 h8 this.1 this.2

theorem call36 (b : Bo) (m : Me) (c : Ck) (time : Int) (h : Near m c time) : PureCall Try.prog 36 [.agg (eBo b), .agg (eMe m), .agg (eCk c), .int .i64 time] [] ⟨.agg (eBo (meetF b m c time)), [], []⟩ := by
  refine pure_call mix Try.func36 fits36 rfl ?_
  conv => whnf
  refine ⟨?_, [], ?_⟩
  · obtain ⟨r1, r2⟩ := reach_rng h
    obtain ⟨h1, h2, h3, h4, h5, h6, h7, h8⟩ := h
    refine ⟨⟨⟨⟨⟨⟨trivial, ?_⟩, ?_⟩, ?_⟩, ?_⟩, ?_⟩, ?_⟩
    all_goals (unfold mx at r1 r2; refine inR64_of ?_ ?_ <;> omega)
  · conv => whnf
    refine ⟨rfl, ?_, trivial, trivial⟩
    conv => whnf
    exact ⟨⟨rfl, rfl⟩, ⟨rfl, rfl⟩, trivial⟩

/-- How far down, how far up a measure lets values go. -/
def IsB (l : List Me) (c : Ck) (time : Int) (p : Nat → Prop) (b : Bo) : Prop :=
  c.lo ≤ b.lo ∧ b.hi ≤ c.hi ∧ (∀ k m, p k → l[k]? = some m → m.v - reach m c time ≤ b.lo ∧ b.hi ≤ m.v + reach m c time) ∧
  (b.lo = c.lo ∨ ∃ k m, p k ∧ l[k]? = some m ∧ b.lo = m.v - reach m c time) ∧ (b.hi = c.hi ∨ ∃ k m, p k ∧ l[k]? = some m ∧ b.hi = m.v + reach m c time)

theorem IsB.meet {l : List Me} {c : Ck} {time : Int} {p q : Nat → Prop} {b : Bo} {k : Nat} {m : Me} (h : IsB l c time p b) (hk : l[k]? = some m) (hq : ∀ i, q i ↔ p i ∨ i = k) : IsB l c time q (meetF b m c time) := by
  obtain ⟨h1, h2, h3, h4, h5⟩ := h
  simp only [meetF, mx_eq, mn_eq]
  refine ⟨by simp only; omega, by simp only; omega, fun i m' hi hm => ?_, ?_, ?_⟩
  · rcases (hq i).1 hi with hi | rfl
    · have := h3 i m' hi hm; simp only; omega
    · rw [hk] at hm; injection hm with hm; subst hm; simp only; omega
  · simp only
    by_cases hh : b.lo ≤ m.v - reach m c time
    · right; exact ⟨k, m, (hq k).2 (.inr rfl), hk, by omega⟩
    · rcases h4 with h4 | ⟨i, m', h6, h7, h8⟩
      · left; omega
      · right; exact ⟨i, m', (hq i).2 (.inl h6), h7, by omega⟩
  · simp only
    by_cases hh : m.v + reach m c time ≤ b.hi
    · right; exact ⟨k, m, (hq k).2 (.inr rfl), hk, by omega⟩
    · rcases h5 with h5 | ⟨i, m', h6, h7, h8⟩
      · left; omega
      · right; exact ⟨i, m', (hq i).2 (.inl h6), h7, by omega⟩

theorem IsB.uniq {l : List Me} {c : Ck} {time : Int} {p : Nat → Prop} {b b' : Bo} (h : IsB l c time p b) (h' : IsB l c time p b') : b = b' := by
  obtain ⟨h1, h2, h3, h4, h5⟩ := h
  obtain ⟨k1, k2, k3, k4, k5⟩ := h'
  have e1 : b.lo = b'.lo := by
    have a1 : b.lo ≤ b'.lo := by
      rcases h4 with h4 | ⟨i, m, a, b, c⟩
      · omega
      · have := k3 i m a b; omega
    have a2 : b'.lo ≤ b.lo := by
      rcases k4 with k4 | ⟨i, m, a, b, c⟩
      · omega
      · have := h3 i m a b; omega
    omega
  have e2 : b.hi = b'.hi := by
    have a1 : b.hi ≤ b'.hi := by
      rcases k5 with k5 | ⟨i, m, a, b, c⟩
      · omega
      · have := h3 i m a b; omega
    have a2 : b'.hi ≤ b.hi := by
      rcases h5 with h5 | ⟨i, m, a, b, c⟩
      · omega
      · have := k3 i m a b; omega
    omega
  cases b; cases b'; simp_all

def boundsF (l : List Me) (c : Ck) (time : Int) : Bo := l.foldl (fun b m => meetF b m c time) ⟨c.lo, c.hi⟩
theorem boundsF_take (l : List Me) (c : Ck) (time : Int) : ∀ n, n ≤ l.length → IsB l c time (· < n) ((l.take n).foldl (fun b m => meetF b m c time) ⟨c.lo, c.hi⟩)
  | 0, _ => ⟨Int.le_refl _, Int.le_refl _, fun k m h => by omega, .inl rfl, .inl rfl⟩
  | n + 1, h => by
    have := boundsF_take l c time n (by omega)
    rw [List.take_add_one, List.getElem?_eq_getElem (by omega), Option.toList_some, List.foldl_append]
    exact this.meet (k := n) (List.getElem?_eq_getElem (by omega)) (fun i => by omega)
theorem boundsF_is (l : List Me) (c : Ck) (time : Int) : IsB l c time (· < l.length) (boundsF l c time) := by
  have := boundsF_take l c time l.length (Nat.le_refl _)
  rwa [List.take_length] at this

theorem call31 (τ : Nat) (l : List Me) (c : Ck) (time : Int) (hl : l.length ≤ 1000) (h : ∀ m ∈ l, Near m c time) : PureCall Try.prog 31 [.sl τ 3 l.length (fl eMe l), .agg (eCk c), .int .i64 time] [] ⟨.agg (eBo (boundsF l c time)), [], []⟩ := by
  refine pure_call mix Try.func31 fits31 rfl ?_
  conv => whnf
  refine ⟨?_, ?_⟩
  · exact ⟨trivial, inR64_of (by omega) (by omega)⟩
  · refine LSem.loop (n := 41) mix (α := Nat × Bo) (fun x => 2 * x.1 ≤ l.length + 1 ∧ IsB l c time (fun k => k < l.length ∧ (k < x.1 ∨ l.length ≤ k + x.1)) x.2)
      (fun x => [(0, .sl τ 3 l.length (fl eMe l)), (2, .int .i64 time), (4, .pt 64 0 0), (6, .pt 96 0 0), (7, .pt 112 0 0), (8, .int .i64 x.1), (9, .int .i64 (l.length - 1 - x.1))])
      (fun x => [(64, .box (eCk c)), (96, .box [.int .i64 0, .int .i64 0]), (112, .box (eBo x.2))]) (fun x => l.length + 1 - x.1) (0, ⟨c.lo, c.hi⟩) ?_ ?_ ?_
    · exact ⟨by simp only; omega, Int.le_refl _, Int.le_refl _, fun k m h => by simp only at h; omega, .inl rfl, .inl rfl⟩
    · refine ⟨rfl, rfl, ?_, ?_⟩
      all_goals repeat' (first | exact True.intro | refine leF_cons rfl ?_ ?_ | refine leS_cons rfl ?_ ?_ | (show PLe _ _ _ _; conv => whnf) | (show SLe _ _ _ _; conv => whnf) | (show PLeL _ _ _ _; conv => whnf) | apply And.intro | rfl | exact Nat.le_refl _ | exact fun _ _ => rfl | exact rowEq0 _ _)
      all_goals (simp only; omega)
    · intro x hx
      obtain ⟨hi, hb⟩ := hx
      conv => whnf
      refine ⟨trivial, fun hc => ?_, fun hc => ?_⟩
      · replace hc := dec_iff hc
        simp only [if_true] at hc
        have hj : ((l.length : Int) - 1 - x.1).toNat = l.length - 1 - x.1 := by omega
        have hj' : ((x.1 : Int)).toNat = x.1 := by omega
        conv => whnf
        refine ⟨_, fun _ => call36 x.2 (l.getD ((x.1 : Int)).toNat default) c time (h _ (getD_mem (by omega))), ?_⟩
        conv => whnf
        refine ⟨_, fun _ => call36 (meetF x.2 (l.getD ((x.1 : Int)).toNat default) c time) (l.getD ((l.length : Int) - 1 - x.1).toNat default) c time (h _ (getD_mem (by omega))), ?_⟩
        conv => whnf
        refine ⟨rfl, ?_⟩
        conv => whnf
        refine ⟨?_, (x.1 + 1, meetF (meetF x.2 (l.getD ((x.1 : Int)).toNat default) c time) (l.getD ((l.length : Int) - 1 - x.1).toNat default) c time), ⟨?_, ?_⟩, ?_, rfl, rfl, ?_, ?_⟩
        · repeat' (first | exact True.intro | refine inR64_of ?_ ?_ | apply And.intro)
          all_goals omega
        · simp only; omega
        · rw [hj, hj']
          refine (hb.meet (k := x.1) (q := fun k => (k < l.length ∧ (k < x.1 ∨ l.length ≤ k + x.1)) ∨ k = x.1) (getD_some (by omega)) (fun i => Iff.rfl)).meet (k := l.length - 1 - x.1) (getD_some (by omega)) (fun i => ?_)
          simp only; omega
        · simp only; omega
        all_goals repeat' (first | exact True.intro | refine leF_cons rfl ?_ ?_ | refine leS_cons rfl ?_ ?_ | (show PLe _ _ _ _; conv => whnf) | (show SLe _ _ _ _; conv => whnf) | (show PLeL _ _ _ _; conv => whnf) | apply And.intro | rfl | exact Nat.le_refl _ | exact fun _ _ => rfl | exact rowEq0 _ _)
        all_goals (try simp only)
        all_goals omega
      · conv => whnf
        replace hc := dec_iff hc
        simp only [Bool.false_eq_true, if_false] at hc
        have e : boundsF l c time = x.2 := (boundsF_is l c time).uniq (by
          have e : (fun k => k < l.length ∧ (k < x.1 ∨ l.length ≤ k + x.1)) = (· < l.length) := by funext k; apply propext; omega
          rw [e] at hb; exact hb)
        rw [e]
        refine ⟨trivial, [], ?_⟩
        conv => whnf
        refine ⟨rfl, ?_, trivial, trivial⟩
        all_goals repeat' (first | exact True.intro | refine leF_cons rfl ?_ ?_ | refine leS_cons rfl ?_ ?_ | (show PLe _ _ _ _; conv => whnf) | (show SLe _ _ _ _; conv => whnf) | (show PLeL _ _ _ _; conv => whnf) | apply And.intro | rfl | exact Nat.le_refl _ | exact fun _ _ => rfl | exact rowEq0 _ _)

end Pv
end Go.Proofs.Ytiknpkadlckmjaa
