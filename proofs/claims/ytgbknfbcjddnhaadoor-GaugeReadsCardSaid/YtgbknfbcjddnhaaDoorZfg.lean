/- CALLS THAT WRITE INTO A SLICE OF THE CALLER's OWN (numbers, one cell each): a rule for a region that begins with one. -/
import Derived.Test.YtgbknfbcjddnhaaDoorZff
/- LAW 06, THE WALKS: bytes as readings. -/
set_option linter.unusedSimpArgs false
set_option linter.unusedVariables false
namespace Go.Proofs.YtgbknfbcjddnhaaDoor
namespace Pv
def c48 : C := (.seq (.reg [⟨(some 2), 32, none, .mv (.c (.int .i64 0))⟩])
  (.seq (.drw [⟨(some 3), 48, none, .mv (.t 0)⟩,
    ⟨(some 4), 64, none, .ia 1 (.t 3) (.c (.int .i64 0))⟩,
    ⟨(some 5), 80, none, .ld 1 false (.t 4)⟩,
    ⟨(some 6), 96, none, .cv false .i64 (.t 5)⟩,
    ⟨(some 7), 112, none, .bi false .shl (.t 6) (.c (.int .u64 24))⟩,
    ⟨(some 8), 128, none, .mv (.t 0)⟩,
    ⟨(some 9), 144, none, .ia 1 (.t 8) (.c (.int .i64 1))⟩,
    ⟨(some 10), 160, none, .ld 1 false (.t 9)⟩,
    ⟨(some 11), 176, none, .cv false .i64 (.t 10)⟩,
    ⟨(some 12), 192, none, .bi false .shl (.t 11) (.c (.int .u64 16))⟩,
    ⟨(some 13), 208, none, .bi false .or (.t 7) (.t 12)⟩,
    ⟨(some 14), 224, none, .mv (.t 0)⟩,
    ⟨(some 15), 240, none, .ia 1 (.t 14) (.c (.int .i64 2))⟩,
    ⟨(some 16), 256, none, .ld 1 false (.t 15)⟩,
    ⟨(some 17), 272, none, .cv false .i64 (.t 16)⟩,
    ⟨(some 18), 288, none, .bi false .shl (.t 17) (.c (.int .u64 8))⟩,
    ⟨(some 19), 304, none, .bi false .or (.t 13) (.t 18)⟩,
    ⟨(some 20), 320, none, .mv (.t 0)⟩,
    ⟨(some 21), 336, none, .ia 1 (.t 20) (.c (.int .i64 3))⟩,
    ⟨(some 22), 352, none, .ld 1 false (.t 21)⟩,
    ⟨(some 23), 368, none, .cv false .i64 (.t 22)⟩,
    ⟨(some 24), 384, none, .bi false .or (.t 19) (.t 23)⟩,
    ⟨(some 2), 32, none, .mv (.t 24)⟩]
    [(0, 5, 3), (0, 6, 3), (0, 7, 3), (0, 8, 3), (0, 9, 3), (0, 11, 3), (0, 12, 3), (0, 13, 3), (0, 14, 3), (0, 15, 3), (0, 17, 3), (0, 18, 3), (0, 19, 3), (0, 20, 3), (1, 5, 4), (1, 6, 4), (1, 7, 4), (1, 8, 4), (1, 9, 4), (1, 11, 4), (1, 12, 4), (1, 13, 4), (1, 14, 4), (1, 15, 4), (1, 17, 4), (1, 18, 4), (1, 19, 4), (1, 20, 4), (2, 5, 5), (2, 6, 5), (2, 7, 5), (2, 8, 5), (2, 9, 5), (2, 11, 5), (2, 12, 5), (2, 13, 5), (2, 14, 5), (2, 15, 5), (2, 17, 5), (2, 18, 5), (2, 19, 5), (2, 20, 5), (3, 5, 6), (3, 6, 6), (3, 7, 6), (3, 8, 6), (3, 9, 6), (3, 11, 6), (3, 12, 6), (3, 13, 6), (3, 14, 6), (3, 15, 6), (3, 17, 6), (3, 18, 6), (3, 19, 6), (3, 20, 6), (4, 5, 7), (4, 6, 7), (4, 7, 7), (4, 8, 7), (4, 9, 7), (4, 11, 7), (4, 12, 7), (4, 13, 7), (4, 14, 7), (4, 15, 7), (4, 17, 7), (4, 18, 7), (4, 19, 7), (4, 20, 7), (5, 11, 8), (5, 12, 8), (5, 13, 8), (5, 14, 8), (5, 15, 8), (5, 17, 8), (5, 18, 8), (5, 19, 8), (5, 20, 8), (6, 11, 9), (6, 12, 9), (6, 13, 9), (6, 14, 9), (6, 15, 9), (6, 17, 9), (6, 18, 9), (6, 19, 9), (6, 20, 9), (7, 11, 10), (7, 12, 10), (7, 13, 10), (7, 14, 10), (7, 15, 10), (7, 17, 10), (7, 18, 10), (7, 19, 10), (7, 20, 10), (8, 11, 11), (8, 12, 11), (8, 13, 11), (8, 14, 11), (8, 15, 11), (8, 17, 11), (8, 18, 11), (8, 19, 11), (8, 20, 11), (9, 11, 12), (9, 12, 12), (9, 13, 12), (9, 14, 12), (9, 15, 12), (9, 17, 12), (9, 18, 12), (9, 19, 12), (9, 20, 12), (10, 11, 13), (10, 12, 13), (10, 13, 13), (10, 14, 13), (10, 15, 13), (10, 17, 13), (10, 18, 13), (10, 19, 13), (10, 20, 13), (11, 17, 14), (11, 18, 14), (11, 19, 14), (11, 20, 14), (12, 17, 15), (12, 18, 15), (12, 19, 15), (12, 20, 15), (13, 17, 16), (13, 18, 16), (13, 19, 16), (13, 20, 16), (14, 17, 17), (14, 18, 17), (14, 19, 17), (14, 20, 17), (15, 17, 18), (15, 18, 18), (15, 19, 18), (15, 20, 18), (16, 17, 19), (16, 18, 19), (16, 19, 19), (16, 20, 19)])
  .ret))
theorem fits48 : fits Tryd.prog false Tryd.f48 1 25 [(2, none)] = some c48.er := by kernel_rfl
def c39 : C := (.seq (.reg [⟨(some 2), 32, none, .mv (.c (.int .i64 0))⟩])
  (.seq (.drw [⟨(some 3), 48, none, .mv (.t 0)⟩,
    ⟨(some 4), 64, none, .ia 1 (.t 3) (.c (.int .i64 0))⟩,
    ⟨(some 5), 80, none, .ld 1 false (.t 4)⟩,
    ⟨(some 6), 96, none, .cv false .i64 (.t 5)⟩,
    ⟨(some 7), 112, none, .bi false .shl (.t 6) (.c (.int .u64 24))⟩,
    ⟨(some 8), 128, none, .mv (.t 0)⟩,
    ⟨(some 9), 144, none, .ia 1 (.t 8) (.c (.int .i64 1))⟩,
    ⟨(some 10), 160, none, .ld 1 false (.t 9)⟩,
    ⟨(some 11), 176, none, .cv false .i64 (.t 10)⟩,
    ⟨(some 12), 192, none, .bi false .shl (.t 11) (.c (.int .u64 16))⟩,
    ⟨(some 13), 208, none, .bi false .or (.t 7) (.t 12)⟩,
    ⟨(some 14), 224, none, .mv (.t 0)⟩,
    ⟨(some 15), 240, none, .ia 1 (.t 14) (.c (.int .i64 2))⟩,
    ⟨(some 16), 256, none, .ld 1 false (.t 15)⟩,
    ⟨(some 17), 272, none, .cv false .i64 (.t 16)⟩,
    ⟨(some 18), 288, none, .bi false .shl (.t 17) (.c (.int .u64 8))⟩,
    ⟨(some 19), 304, none, .bi false .or (.t 13) (.t 18)⟩,
    ⟨(some 20), 320, none, .mv (.t 0)⟩,
    ⟨(some 21), 336, none, .ia 1 (.t 20) (.c (.int .i64 3))⟩,
    ⟨(some 22), 352, none, .ld 1 false (.t 21)⟩,
    ⟨(some 23), 368, none, .cv false .i64 (.t 22)⟩,
    ⟨(some 24), 384, none, .bi false .or (.t 19) (.t 23)⟩,
    ⟨(some 2), 32, none, .mv (.t 24)⟩]
    [(0, 5, 3), (0, 6, 3), (0, 7, 3), (0, 8, 3), (0, 9, 3), (0, 11, 3), (0, 12, 3), (0, 13, 3), (0, 14, 3), (0, 15, 3), (0, 17, 3), (0, 18, 3), (0, 19, 3), (0, 20, 3), (1, 5, 4), (1, 6, 4), (1, 7, 4), (1, 8, 4), (1, 9, 4), (1, 11, 4), (1, 12, 4), (1, 13, 4), (1, 14, 4), (1, 15, 4), (1, 17, 4), (1, 18, 4), (1, 19, 4), (1, 20, 4), (2, 5, 5), (2, 6, 5), (2, 7, 5), (2, 8, 5), (2, 9, 5), (2, 11, 5), (2, 12, 5), (2, 13, 5), (2, 14, 5), (2, 15, 5), (2, 17, 5), (2, 18, 5), (2, 19, 5), (2, 20, 5), (3, 5, 6), (3, 6, 6), (3, 7, 6), (3, 8, 6), (3, 9, 6), (3, 11, 6), (3, 12, 6), (3, 13, 6), (3, 14, 6), (3, 15, 6), (3, 17, 6), (3, 18, 6), (3, 19, 6), (3, 20, 6), (4, 5, 7), (4, 6, 7), (4, 7, 7), (4, 8, 7), (4, 9, 7), (4, 11, 7), (4, 12, 7), (4, 13, 7), (4, 14, 7), (4, 15, 7), (4, 17, 7), (4, 18, 7), (4, 19, 7), (4, 20, 7), (5, 11, 8), (5, 12, 8), (5, 13, 8), (5, 14, 8), (5, 15, 8), (5, 17, 8), (5, 18, 8), (5, 19, 8), (5, 20, 8), (6, 11, 9), (6, 12, 9), (6, 13, 9), (6, 14, 9), (6, 15, 9), (6, 17, 9), (6, 18, 9), (6, 19, 9), (6, 20, 9), (7, 11, 10), (7, 12, 10), (7, 13, 10), (7, 14, 10), (7, 15, 10), (7, 17, 10), (7, 18, 10), (7, 19, 10), (7, 20, 10), (8, 11, 11), (8, 12, 11), (8, 13, 11), (8, 14, 11), (8, 15, 11), (8, 17, 11), (8, 18, 11), (8, 19, 11), (8, 20, 11), (9, 11, 12), (9, 12, 12), (9, 13, 12), (9, 14, 12), (9, 15, 12), (9, 17, 12), (9, 18, 12), (9, 19, 12), (9, 20, 12), (10, 11, 13), (10, 12, 13), (10, 13, 13), (10, 14, 13), (10, 15, 13), (10, 17, 13), (10, 18, 13), (10, 19, 13), (10, 20, 13), (11, 17, 14), (11, 18, 14), (11, 19, 14), (11, 20, 14), (12, 17, 15), (12, 18, 15), (12, 19, 15), (12, 20, 15), (13, 17, 16), (13, 18, 16), (13, 19, 16), (13, 20, 16), (14, 17, 17), (14, 18, 17), (14, 19, 17), (14, 20, 17), (15, 17, 18), (15, 18, 18), (15, 19, 18), (15, 20, 18), (16, 17, 19), (16, 18, 19), (16, 19, 19), (16, 20, 19)])
  .ret))
theorem fits39 : fits Tryd.prog false Tryd.f39 1 25 [(2, none)] = some c39.er := by kernel_rfl
def c35 : C := (.seq (.reg [⟨(some 2), 32, none, .al [(.int .i64 0), (.int .i64 0), (.int .i64 0), (.int .i64 0)]⟩,
    ⟨(some 3), 48, none, .mv (.c (.int .i64 0))⟩])
  (.seq (.seq (.reg [⟨(some 5), 80, none, .mv (.t 0)⟩,
    ⟨(some 6), 96, none, .len (.t 5)⟩,
    ⟨(some 7), 112, none, .bi false .lss (.t 6) (.c (.int .i64 12))⟩])
  (.cond (.t 7) (.seq (.reg [⟨(some 8), 128, none, .bd [(.int .i64 0), (.int .i64 0), (.int .i64 0), (.int .i64 0)] []⟩,
    ⟨none, 0, none, .st 4 (.t 2) (.t 8)⟩,
    ⟨(some 3), 48, none, .mv (.c (.int .i64 3))⟩])
  .ret) .skip))
  (.seq (.seq (.drw [⟨(some 9), 144, none, .mv (.t 0)⟩,
    ⟨(some 10), 160, none, .slc 1 (.t 9) none (some (.c (.int .i64 10)))⟩,
    ⟨(some 11), 176, none, .call (.c (.fn (.func 28) [] [])) [(.t 10)]⟩,
    ⟨(some 12), 192, none, .mv (.t 0)⟩,
    ⟨(some 13), 208, none, .ia 1 (.t 12) (.c (.int .i64 10))⟩,
    ⟨(some 14), 224, none, .ld 1 false (.t 13)⟩,
    ⟨(some 15), 240, none, .cv false .i64 (.t 14)⟩,
    ⟨(some 16), 256, none, .bi false .shl (.t 15) (.c (.int .u64 8))⟩,
    ⟨(some 17), 272, none, .mv (.t 0)⟩,
    ⟨(some 18), 288, none, .ia 1 (.t 17) (.c (.int .i64 11))⟩,
    ⟨(some 19), 304, none, .ld 1 false (.t 18)⟩,
    ⟨(some 20), 320, none, .cv false .i64 (.t 19)⟩,
    ⟨(some 21), 336, none, .bi false .or (.t 16) (.t 20)⟩,
    ⟨(some 22), 352, none, .bi false .neq (.t 11) (.t 21)⟩]
    [(0, 3, 9), (0, 4, 9), (0, 5, 9), (0, 6, 9), (0, 7, 9), (0, 8, 9), (0, 9, 9), (0, 10, 9), (0, 11, 9), (0, 12, 9), (1, 3, 10), (1, 4, 10), (1, 5, 10), (1, 6, 10), (1, 7, 10), (1, 8, 10), (1, 9, 10), (1, 10, 10), (1, 11, 10), (1, 12, 10), (2, 3, 11), (2, 4, 11), (2, 5, 11), (2, 6, 11), (2, 7, 11), (2, 8, 11), (2, 9, 11), (2, 10, 11), (2, 11, 11), (2, 12, 11), (3, 8, 12), (3, 9, 12), (3, 10, 12), (3, 11, 12), (4, 8, 13), (4, 9, 13), (4, 10, 13), (4, 11, 13), (5, 8, 14), (5, 9, 14), (5, 10, 14), (5, 11, 14), (6, 8, 15), (6, 9, 15), (6, 10, 15), (6, 11, 15), (7, 8, 16), (7, 9, 16), (7, 10, 16), (7, 11, 16)])
  (.cond (.t 22) (.seq (.reg [⟨(some 23), 368, none, .bd [(.int .i64 0), (.int .i64 0), (.int .i64 0), (.int .i64 0)] []⟩,
    ⟨none, 0, none, .st 4 (.t 2) (.t 23)⟩,
    ⟨(some 3), 48, none, .mv (.c (.int .i64 8))⟩])
  .ret) .skip))
  (.seq (.drw [⟨(some 24), 384, none, .mv (.t 0)⟩,
    ⟨(some 25), 400, none, .ia 1 (.t 24) (.c (.int .i64 0))⟩,
    ⟨(some 26), 416, none, .ld 1 false (.t 25)⟩,
    ⟨(some 27), 432, none, .cv false .i64 (.t 26)⟩,
    ⟨(some 28), 448, none, .mv (.t 0)⟩,
    ⟨(some 29), 464, none, .slc 1 (.t 28) (some (.c (.int .i64 1))) none⟩,
    ⟨(some 30), 480, none, .call (.c (.fn (.func 48) [] [])) [(.t 29)]⟩,
    ⟨(some 31), 496, none, .mv (.t 0)⟩,
    ⟨(some 32), 512, none, .slc 1 (.t 31) (some (.c (.int .i64 5))) none⟩,
    ⟨(some 33), 528, none, .call (.c (.fn (.func 48) [] [])) [(.t 32)]⟩,
    ⟨(some 34), 544, none, .mv (.t 0)⟩,
    ⟨(some 35), 560, none, .ia 1 (.t 34) (.c (.int .i64 9))⟩,
    ⟨(some 36), 576, none, .ld 1 false (.t 35)⟩,
    ⟨(some 37), 592, none, .cv false .i64 (.t 36)⟩,
    ⟨(some 38), 608, none, .bd [(.int .i64 0), (.int .i64 0), (.int .i64 0), (.int .i64 0)] [(0, 1, (.t 27)), (1, 1, (.t 30)), (2, 1, (.t 33)), (3, 1, (.t 37))]⟩,
    ⟨(some 4), 64, none, .al [(.int .i64 0), (.int .i64 0), (.int .i64 0), (.int .i64 0)]⟩,
    ⟨none, 0, none, .st 4 (.t 4) (.t 38)⟩]
    [(0, 4, 24), (0, 5, 24), (0, 6, 24), (0, 7, 24), (0, 8, 24), (0, 9, 24), (0, 10, 24), (0, 11, 24), (0, 12, 24), (0, 13, 24), (0, 15, 24), (1, 4, 25), (1, 5, 25), (1, 6, 25), (1, 7, 25), (1, 8, 25), (1, 9, 25), (1, 10, 25), (1, 11, 25), (1, 12, 25), (1, 13, 25), (1, 15, 25), (2, 4, 26), (2, 5, 26), (2, 6, 26), (2, 7, 26), (2, 8, 26), (2, 9, 26), (2, 10, 26), (2, 11, 26), (2, 12, 26), (2, 13, 26), (2, 15, 26), (3, 4, 27), (3, 5, 27), (3, 6, 27), (3, 7, 27), (3, 8, 27), (3, 9, 27), (3, 10, 27), (3, 11, 27), (3, 12, 27), (3, 13, 27), (3, 15, 27), (4, 7, 28), (4, 8, 28), (4, 10, 28), (4, 11, 28), (4, 12, 28), (4, 13, 28), (4, 15, 28), (5, 7, 29), (5, 8, 29), (5, 10, 29), (5, 11, 29), (5, 12, 29), (5, 13, 29), (5, 15, 29), (6, 7, 30), (6, 8, 30), (6, 10, 30), (6, 11, 30), (6, 12, 30), (6, 13, 30), (6, 15, 30), (7, 10, 31), (7, 11, 31), (7, 12, 31), (7, 13, 31), (7, 15, 31), (8, 10, 32), (8, 11, 32), (8, 12, 32), (8, 13, 32), (8, 15, 32), (9, 10, 33), (9, 11, 33), (9, 12, 33), (9, 13, 33), (9, 15, 33), (10, 15, 34), (11, 15, 35), (12, 15, 36), (13, 15, 37), (14, 15, 38)])
  (.seq (.drw [⟨(some 39), 624, none, .ld 4 true (.t 4)⟩,
    ⟨(some 40), 640, none, .ld 4 true (.t 4)⟩,
    ⟨(some 41), 656, none, .call (.c (.fn (.func 26) [] [])) [(.t 40)]⟩,
    ⟨none, 0, none, .st 4 (.t 2) (.t 39)⟩,
    ⟨(some 3), 48, none, .mv (.t 41)⟩]
    [(0, 1, 39), (0, 2, 39)])
  .ret)))))
theorem fits35 : fits Tryd.prog false Tryd.f35 1 42 [(2, some (4, true)), (3, none)] = some c35.er := by kernel_rfl

def gB (l : List UInt8) (i : Nat) : Int := ((l.getD i default).toNat : Int)
theorem gB_rng (l : List UInt8) (i : Nat) : 0 ≤ gB l i ∧ gB l i < 256 := ⟨Int.natCast_nonneg _, u8_lt _⟩
def wordF (l : List UInt8) (k : Nat) : Int := gB l k * 16777216 + gB l (k + 1) * 65536 + gB l (k + 2) * 256 + gB l (k + 3)
def rd0 : Rd := ⟨0, 0, 0, 0⟩
/-- The reading of twelve bytes, and the error. -/
def recV (l : List UInt8) : Rd := ⟨gB l 0, wordF l 1, wordF l 5, gB l 9⟩
def recF (l : List UInt8) : Rd × Int := if l.length < 12 then (rd0, 3) else if sumF (l.take 10) ≠ gB l 10 * 256 + gB l 11 then (rd0, 8) else (recV l, checkR (recV l))
/-- The readings of bytes; where the error is, and the error. -/
def decG : Nat → Int → List Rd → List UInt8 → List Rd × Int × Int
  | 0, _, out, _ => (out, 0, 0)
  | n + 1, at_, out, l => if l.length = 0 then (out, 0, 0) else if (recF (l.take 12)).2 ≠ 0 then ([], at_, (recF (l.take 12)).2) else decG n (at_ + 12) (out ++ [(recF (l.take 12)).1]) (l.drop 12)
def decF (l : List UInt8) : List Rd × Int × Int := if 49152 < l.length then ([], 0, 10) else decG (l.length + 1) 0 [] l

theorem or_add {a b k : Nat} (h : b < 2 ^ k) : (a * 2 ^ k ||| b) = a * 2 ^ k + b := by
  rw [Nat.mul_comm, ← Nat.two_pow_add_eq_or_of_lt h]
theorem pw24 : (2 : Int) ^ Int.toNat 24 = 16777216 := by decide
theorem pw16 : (2 : Int) ^ Int.toNat 16 = 65536 := by decide
theorem pw8 : (2 : Int) ^ Int.toNat 8 = 256 := by decide
theorem mx64 : IntKind.i64.max = 9223372036854775807 := rfl
theorem tn_mul (x k : Nat) : ((x : Int) * (k : Int)).toNat = x * k := by
  rw [← Int.natCast_mul, Int.toNat_natCast]
theorem or24 {x b : Nat} (h : b < 16777216) : (x * 16777216 ||| b) = x * 16777216 + b := by
  have := or_add (a := x) (b := b) (k := 24) (by simpa using h)
  simpa only [Nat.reducePow] using this
theorem or16 {x b : Nat} (h : b < 65536) : (x * 65536 ||| b) = x * 65536 + b := by
  have := or_add (a := x) (b := b) (k := 16) (by simpa using h)
  simpa only [Nat.reducePow] using this
theorem or08 {x b : Nat} (h : b < 256) : (x * 256 ||| b) = x * 256 + b := by
  have := or_add (a := x) (b := b) (k := 8) (by simpa using h)
  simpa only [Nat.reducePow] using this
theorem orA (x y : UInt8) : (((x.toNat : Int) * 16777216).toNat ||| ((y.toNat : Int) * 65536).toNat) = x.toNat * 16777216 + y.toNat * 65536 := by
  have hy := UInt8.toNat_lt y
  have e1 : ((x.toNat : Int) * 16777216).toNat = x.toNat * 16777216 := tn_mul _ 16777216
  have e2 : ((y.toNat : Int) * 65536).toNat = y.toNat * 65536 := tn_mul _ 65536
  rw [e1, e2]
  exact or24 (by omega)
theorem orB (x y z : UInt8) : ((((x.toNat * 16777216 + y.toNat * 65536 : Nat) : Int)).toNat ||| ((z.toNat : Int) * 256).toNat) = x.toNat * 16777216 + y.toNat * 65536 + z.toNat * 256 := by
  have hz := UInt8.toNat_lt z
  have e2 : ((z.toNat : Int) * 256).toNat = z.toNat * 256 := tn_mul _ 256
  rw [e2, Int.toNat_natCast]
  have e3 : x.toNat * 16777216 + y.toNat * 65536 = (x.toNat * 256 + y.toNat) * 65536 := by omega
  rw [e3]
  exact or16 (by omega)
theorem orC (x y z u : UInt8) : ((((x.toNat * 16777216 + y.toNat * 65536 + z.toNat * 256 : Nat) : Int)).toNat ||| ((u.toNat : Int)).toNat) = x.toNat * 16777216 + y.toNat * 65536 + z.toNat * 256 + u.toNat := by
  have hu := UInt8.toNat_lt u
  rw [Int.toNat_natCast, Int.toNat_natCast]
  have e3 : x.toNat * 16777216 + y.toNat * 65536 + z.toNat * 256 = (x.toNat * 65536 + y.toNat * 256 + z.toNat) * 256 := by omega
  rw [e3]
  exact or08 (by omega)
theorem orD (x y : UInt8) : (((x.toNat : Int) * 256).toNat ||| ((y.toNat : Int)).toNat) = x.toNat * 256 + y.toNat := by
  have hu := UInt8.toNat_lt y
  have e2 : ((x.toNat : Int) * 256).toNat = x.toNat * 256 := tn_mul _ 256
  rw [e2, Int.toNat_natCast]
  exact or08 (by omega)
theorem tn0 : Int.toNat 0 = 0 := rfl
theorem tn1 : Int.toNat 1 = 1 := rfl
theorem tn2 : Int.toNat 2 = 2 := rfl
theorem tn3 : Int.toNat 3 = 3 := rfl
theorem tn9 : Int.toNat 9 = 9 := rfl
theorem tn10 : Int.toNat 10 = 10 := rfl
theorem tn11 : Int.toNat 11 = 11 := rfl
/-- Parts of a list, as rows. -/
theorem cut_eq {α : Type} [Inhabited α] {e : α → List PV} {l : List α} {i n : Nat} (h : i + n ≤ l.length) : RowEq n (fun k => fl e l (i + k)) (fl e ((l.drop i).take n)) := fun k hk => by
  simp only [fl]
  congr 1
  simp [List.getD, List.getElem?_take, hk, List.getElem?_drop]
theorem cut_len {α : Type} {l : List α} {i n : Nat} (h : i + n ≤ l.length) : ((l.drop i).take n).length = n := by
  rw [List.length_take, List.length_drop]; omega
theorem gB_cut {l : List UInt8} {i n k : Nat} (hk : k < n) : gB ((l.drop i).take n) k = gB l (i + k) := by
  simp [gB, List.getD, List.getElem?_take, hk, List.getElem?_drop]
theorem wordF_cut {l : List UInt8} {i n k : Nat} (hk : k + 3 < n) : wordF ((l.drop i).take n) k = wordF l (i + k) := by
  unfold wordF
  rw [gB_cut (by omega), gB_cut (by omega), gB_cut (by omega), gB_cut (by omega)]
  rfl
theorem drop_eq {α : Type} [Inhabited α] {e : α → List PV} {l : List α} {i : Nat} : RowEq (l.length - i) (fun k => fl e l (i + k)) (fl e (l.drop i)) := fun k hk => by
  simp only [fl]
  congr 1
  simp [List.getD, List.getElem?_drop]
theorem gB_drop {l : List UInt8} {i k : Nat} : gB (l.drop i) k = gB l (i + k) := by
  simp [gB, List.getD, List.getElem?_drop]
theorem wordF_drop (l : List UInt8) (i : Nat) : wordF (l.drop i) 0 = wordF l i := by
  unfold wordF
  rw [gB_drop, gB_drop, gB_drop, gB_drop]
  simp
theorem take_eq {α : Type} [Inhabited α] {e : α → List PV} {l : List α} {n : Nat} (h : n ≤ l.length) : RowEq n (fl e l) (fl e (l.take n)) := fun k hk => by
  simp only [fl]
  congr 1
  simp [List.getD, List.getElem?_take, hk]

set_option maxRecDepth 100000 in
set_option maxHeartbeats 4000000 in
theorem call48 (τ : Nat) (l : List UInt8) (hl : 4 ≤ l.length) : PureCall Tryd.prog 48 [.sl τ 1 l.length (fl eB l)] [] ⟨.int .i64 (wordF l 0), [], []⟩ := by
  refine pure_call mix Tryd.func48 fits48 rfl ?_
  conv => whnf
  refine ⟨rfl, ?_⟩
  have b0 : 0 ≤ ((l.getD 0 default).toNat : Int) ∧ ((l.getD 0 default).toNat : Int) < 256 := gB_rng l 0
  have b1 : 0 ≤ ((l.getD 1 default).toNat : Int) ∧ ((l.getD 1 default).toNat : Int) < 256 := gB_rng l 1
  have b2 : 0 ≤ ((l.getD 2 default).toNat : Int) ∧ ((l.getD 2 default).toNat : Int) < 256 := gB_rng l 2
  have b3 : 0 ≤ ((l.getD 3 default).toNat : Int) ∧ ((l.getD 3 default).toNat : Int) < 256 := gB_rng l 3
  conv => whnf
  refine ⟨?_, [], ?_⟩
  · simp only [pw24, pw16, pw8, tn0, tn1, tn2, tn3, orA, orB, orC, mx64]
    (try conv => whnf)
    (repeat' (first | exact True.intro | exact fun _ h => h | refine inR64_of ?_ ?_ | apply And.intro | refine maxLen_ge ?_)) <;> (first | omega | decide | (dsimp only; omega) | (dsimp only [List.length_cons, List.length_nil]; omega) | (intro hg; rw [hg]; rfl) | (intro hg hh; rw [hg, hh]; rfl) | (intro hg; simp [-List.getD_eq_getElem?_getD, -Int.default_eq_zero] at hg; first | omega | (refine inR64_of ?_ ?_ <;> omega) | (constructor <;> omega)) | (simp [-List.getD_eq_getElem?_getD, -Int.default_eq_zero]; done))
  conv => whnf
  refine ⟨rfl, ?_, trivial, trivial⟩
  all_goals repeat' (first | exact True.intro | refine leF_cons rfl ?_ ?_ | refine leS_cons rfl ?_ ?_ | (show PLe _ _ _ _; conv => whnf) | (show SLe _ _ _ _; conv => whnf) | (show PLeL _ _ _ _; conv => whnf) | apply And.intro | rfl | exact Nat.le_refl _ | exact fun _ _ => rfl | exact rowEq0 _ _)
  simp only [pw24, pw16, pw8, tn0, tn1, tn2, tn3, orA, orB, orC, wordF, gB, Nat.zero_add]
  omega
set_option maxRecDepth 100000 in
set_option maxHeartbeats 4000000 in
theorem call39 (τ : Nat) (l : List UInt8) (hl : 4 ≤ l.length) : PureCall Tryd.prog 39 [.sl τ 1 l.length (fl eB l)] [] ⟨.int .i64 (wordF l 0), [], []⟩ := by
  refine pure_call mix Tryd.func39 fits39 rfl ?_
  conv => whnf
  refine ⟨rfl, ?_⟩
  have b0 : 0 ≤ ((l.getD 0 default).toNat : Int) ∧ ((l.getD 0 default).toNat : Int) < 256 := gB_rng l 0
  have b1 : 0 ≤ ((l.getD 1 default).toNat : Int) ∧ ((l.getD 1 default).toNat : Int) < 256 := gB_rng l 1
  have b2 : 0 ≤ ((l.getD 2 default).toNat : Int) ∧ ((l.getD 2 default).toNat : Int) < 256 := gB_rng l 2
  have b3 : 0 ≤ ((l.getD 3 default).toNat : Int) ∧ ((l.getD 3 default).toNat : Int) < 256 := gB_rng l 3
  conv => whnf
  refine ⟨?_, [], ?_⟩
  · simp only [pw24, pw16, pw8, tn0, tn1, tn2, tn3, orA, orB, orC, mx64]
    (try conv => whnf)
    (repeat' (first | exact True.intro | exact fun _ h => h | refine inR64_of ?_ ?_ | apply And.intro | refine maxLen_ge ?_)) <;> (first | omega | decide | (dsimp only; omega) | (dsimp only [List.length_cons, List.length_nil]; omega) | (intro hg; rw [hg]; rfl) | (intro hg hh; rw [hg, hh]; rfl) | (intro hg; simp [-List.getD_eq_getElem?_getD, -Int.default_eq_zero] at hg; first | omega | (refine inR64_of ?_ ?_ <;> omega) | (constructor <;> omega)) | (simp [-List.getD_eq_getElem?_getD, -Int.default_eq_zero]; done))
  conv => whnf
  refine ⟨rfl, ?_, trivial, trivial⟩
  all_goals repeat' (first | exact True.intro | refine leF_cons rfl ?_ ?_ | refine leS_cons rfl ?_ ?_ | (show PLe _ _ _ _; conv => whnf) | (show SLe _ _ _ _; conv => whnf) | (show PLeL _ _ _ _; conv => whnf) | apply And.intro | rfl | exact Nat.le_refl _ | exact fun _ _ => rfl | exact rowEq0 _ _)
  simp only [pw24, pw16, pw8, tn0, tn1, tn2, tn3, orA, orB, orC, wordF, gB, Nat.zero_add]
  omega
set_option maxRecDepth 100000 in
set_option maxHeartbeats 4000000 in
theorem call35 (τ : Nat) (hτ : τ ≤ 2) (l : List UInt8) (hl : l.length ≤ 4611686018427387904) : PureCall Tryd.prog 35 [.sl τ 1 l.length (fl eB l)] [] ⟨.tup [.agg (eRd (recF l).1), .int .i64 (recF l).2], [], []⟩ := by
  have hlt : lendT τ ≤ 2 := lendT_mono (b := 2) hτ
  refine pure_call mix Tryd.func35 fits35 rfl ?_
  conv => whnf
  refine ⟨?_, fun hc => ?_, fun hc => ?_⟩
  · (try conv => whnf)
    (repeat' (first | exact True.intro | exact fun _ h => h | refine inR64_of ?_ ?_ | apply And.intro | refine maxLen_ge ?_)) <;> (first | omega | decide | (dsimp only; omega) | (dsimp only [List.length_cons, List.length_nil]; omega) | (intro hg; rw [hg]; rfl) | (intro hg hh; rw [hg, hh]; rfl) | (intro hg; simp [-List.getD_eq_getElem?_getD, -Int.default_eq_zero] at hg; first | omega | (refine inR64_of ?_ ?_ <;> omega) | (constructor <;> omega)) | (simp [-List.getD_eq_getElem?_getD, -Int.default_eq_zero]; done))
  · simp only [bif_t, bif_f, decide_eq_true_eq, decide_eq_false_iff_not, Bool.not_eq_true', Bool.not_eq_false', Bool.and_eq_true, Bool.or_eq_true, Bool.and_eq_false_iff, Bool.or_eq_false_iff, beq_iff_eq, bne_iff_ne, beq_eq_false_iff_ne, bne_eq_false_iff_eq, reduceCtorEq, false_and, and_false, true_and, and_true, or_false, false_or, or_true, true_or, not_true_eq_false, not_false_eq_true, Int.toNat_zero] at hc
    rw [show recF l = (rd0, 3) by unfold recF; rw [if_pos (by omega)]]
    conv => whnf
    refine ⟨?_, [], ?_⟩
    · (try conv => whnf)
      (repeat' (first | exact True.intro | exact fun _ h => h | refine inR64_of ?_ ?_ | apply And.intro | refine maxLen_ge ?_)) <;> (first | omega | decide | (dsimp only; omega) | (dsimp only [List.length_cons, List.length_nil]; omega) | (intro hg; rw [hg]; rfl) | (intro hg hh; rw [hg, hh]; rfl) | (intro hg; simp [-List.getD_eq_getElem?_getD, -Int.default_eq_zero] at hg; first | omega | (refine inR64_of ?_ ?_ <;> omega) | (constructor <;> omega)) | (simp [-List.getD_eq_getElem?_getD, -Int.default_eq_zero]; done))
    conv => whnf
    refine ⟨rfl, ?_, trivial, trivial⟩
    all_goals repeat' (first | exact True.intro | refine leF_cons rfl ?_ ?_ | refine leS_cons rfl ?_ ?_ | (show PLe _ _ _ _; conv => whnf) | (show SLe _ _ _ _; conv => whnf) | (show PLeL _ _ _ _; conv => whnf) | apply And.intro | rfl | exact Nat.le_refl _ | exact fun _ _ => rfl | exact rowEq0 _ _)
  simp only [bif_t, bif_f, decide_eq_true_eq, decide_eq_false_iff_not, Bool.not_eq_true', Bool.not_eq_false', Bool.and_eq_true, Bool.or_eq_true, Bool.and_eq_false_iff, Bool.or_eq_false_iff, beq_iff_eq, bne_iff_ne, beq_eq_false_iff_ne, bne_eq_false_iff_eq, reduceCtorEq, false_and, and_false, true_and, and_true, or_false, false_or, or_true, true_or, not_true_eq_false, not_false_eq_true, Int.toNat_zero] at hc
  have h12 : 12 ≤ l.length := by omega
  conv => whnf
  refine ⟨_, fun _ => PureCall.arg_le (call28 2 (l.take 10) (by rw [List.length_take]; omega)) rfl ⟨⟨hlt, rfl, ?_, take_eq (by omega)⟩, trivial⟩, ?_⟩
  · show 10 = _; rw [List.length_take]; omega
  conv => whnf
  refine ⟨rfl, ?_⟩
  conv => whnf
  have b0 := gB_rng l 0
  have b9 := gB_rng l 9
  have b10 := gB_rng l 10
  have b11 := gB_rng l 11
  refine ⟨?_, fun h1 => ?_, fun h1 => ?_⟩
  · unfold gB at b0 b9 b10 b11
    simp only [pw8, tn10, tn11, orD, mx64]
    (try conv => whnf)
    (repeat' (first | exact True.intro | exact fun _ h => h | refine inR64_of ?_ ?_ | apply And.intro | refine maxLen_ge ?_)) <;> (first | omega | decide | (dsimp only; omega) | (dsimp only [List.length_cons, List.length_nil]; omega) | (intro hg; rw [hg]; rfl) | (intro hg hh; rw [hg, hh]; rfl) | (intro hg; simp [-List.getD_eq_getElem?_getD, -Int.default_eq_zero] at hg; first | omega | (refine inR64_of ?_ ?_ <;> omega) | (constructor <;> omega)) | (simp [-List.getD_eq_getElem?_getD, -Int.default_eq_zero]; done))
  · have h2 : sumF (l.take 10) ≠ gB l 10 * 256 + gB l 11 := by
      simp only [pw8, tn10, tn11, orD] at h1
      simp only [bif_t, bif_f, decide_eq_true_eq, decide_eq_false_iff_not, Bool.not_eq_true', Bool.not_eq_false', Bool.and_eq_true, Bool.or_eq_true, Bool.and_eq_false_iff, Bool.or_eq_false_iff, beq_iff_eq, bne_iff_ne, beq_eq_false_iff_ne, bne_eq_false_iff_eq, reduceCtorEq, false_and, and_false, true_and, and_true, or_false, false_or, or_true, true_or, not_true_eq_false, not_false_eq_true, Int.toNat_zero] at h1
      unfold gB; omega
    rw [show recF l = (rd0, 8) by unfold recF; rw [if_neg (by omega), if_pos h2]]
    conv => whnf
    refine ⟨?_, [], ?_⟩
    · (try conv => whnf)
      (repeat' (first | exact True.intro | exact fun _ h => h | refine inR64_of ?_ ?_ | apply And.intro | refine maxLen_ge ?_)) <;> (first | omega | decide | (dsimp only; omega) | (dsimp only [List.length_cons, List.length_nil]; omega) | (intro hg; rw [hg]; rfl) | (intro hg hh; rw [hg, hh]; rfl) | (intro hg; simp [-List.getD_eq_getElem?_getD, -Int.default_eq_zero] at hg; first | omega | (refine inR64_of ?_ ?_ <;> omega) | (constructor <;> omega)) | (simp [-List.getD_eq_getElem?_getD, -Int.default_eq_zero]; done))
    conv => whnf
    refine ⟨rfl, ?_, trivial, trivial⟩
    all_goals repeat' (first | exact True.intro | refine leF_cons rfl ?_ ?_ | refine leS_cons rfl ?_ ?_ | (show PLe _ _ _ _; conv => whnf) | (show SLe _ _ _ _; conv => whnf) | (show PLeL _ _ _ _; conv => whnf) | apply And.intro | rfl | exact Nat.le_refl _ | exact fun _ _ => rfl | exact rowEq0 _ _)
  have h2 : ¬ sumF (l.take 10) ≠ gB l 10 * 256 + gB l 11 := by
    simp only [pw8, tn10, tn11, orD] at h1
    simp only [bif_t, bif_f, decide_eq_true_eq, decide_eq_false_iff_not, Bool.not_eq_true', Bool.not_eq_false', Bool.and_eq_true, Bool.or_eq_true, Bool.and_eq_false_iff, Bool.or_eq_false_iff, beq_iff_eq, bne_iff_ne, beq_eq_false_iff_ne, bne_eq_false_iff_eq, reduceCtorEq, false_and, and_false, true_and, and_true, or_false, false_or, or_true, true_or, not_true_eq_false, not_false_eq_true, Int.toNat_zero] at h1
    unfold gB; omega
  rw [show recF l = (recV l, checkR (recV l)) by unfold recF; rw [if_neg (by omega), if_neg h2]]
  have c1 : PureCall Tryd.prog 48 [.sl 2 1 (l.drop 1).length (fl eB (l.drop 1))] [] ⟨.int .i64 (wordF l 1), [], []⟩ := by
    have := call48 2 (l.drop 1) (by rw [List.length_drop]; omega)
    rwa [wordF_drop] at this
  have c5 : PureCall Tryd.prog 48 [.sl 2 1 (l.drop 5).length (fl eB (l.drop 5))] [] ⟨.int .i64 (wordF l 5), [], []⟩ := by
    have := call48 2 (l.drop 5) (by rw [List.length_drop]; omega)
    rwa [wordF_drop] at this
  conv => whnf
  refine ⟨_, fun _ => PureCall.arg_le c1 rfl ⟨⟨hlt, rfl, by rw [List.length_drop]; rfl, drop_eq⟩, trivial⟩, ?_⟩
  conv => whnf
  refine ⟨_, fun _ => PureCall.arg_le c5 rfl ⟨⟨hlt, rfl, by rw [List.length_drop]; rfl, drop_eq⟩, trivial⟩, ?_⟩
  conv => whnf
  refine ⟨rfl, ?_⟩
  conv => whnf
  refine ⟨_, fun _ => call26 (recV l), ?_⟩
  conv => whnf
  refine ⟨rfl, ?_⟩
  conv => whnf
  refine ⟨?_, [], ?_⟩
  · unfold gB at b0 b9
    simp only [tn0, tn9, tn1]
    (try conv => whnf)
    (repeat' (first | exact True.intro | exact fun _ h => h | refine inR64_of ?_ ?_ | apply And.intro | refine maxLen_ge ?_)) <;> (first | omega | decide | (dsimp only; omega) | (dsimp only [List.length_cons, List.length_nil]; omega) | (intro hg; rw [hg]; rfl) | (intro hg hh; rw [hg, hh]; rfl) | (intro hg; simp [-List.getD_eq_getElem?_getD, -Int.default_eq_zero] at hg; first | omega | (refine inR64_of ?_ ?_ <;> omega) | (constructor <;> omega)) | (simp [-List.getD_eq_getElem?_getD, -Int.default_eq_zero]; done))
  conv => whnf
  refine ⟨rfl, ?_, trivial, trivial⟩
  all_goals repeat' (first | exact True.intro | refine leF_cons rfl ?_ ?_ | refine leS_cons rfl ?_ ?_ | (show PLe _ _ _ _; conv => whnf) | (show SLe _ _ _ _; conv => whnf) | (show PLeL _ _ _ _; conv => whnf) | apply And.intro | rfl | exact Nat.le_refl _ | exact fun _ _ => rfl | exact rowEq0 _ _)
end Pv
end Go.Proofs.YtgbknfbcjddnhaaDoor

/- LAW 06, THE WALKS: bytes as readings, all of them. -/
set_option linter.unusedSimpArgs false
set_option linter.unusedVariables false
namespace Go.Proofs.YtgbknfbcjddnhaaDoor
namespace Pv
def c18L1 : C := (.seq (.seq (.reg [⟨(some 12), 192, none, .mv (.t 6)⟩,
    ⟨(some 13), 208, none, .mv (.t 0)⟩,
    ⟨(some 14), 224, none, .len (.t 13)⟩,
    ⟨(some 15), 240, none, .bi false .lss (.t 12) (.t 14)⟩])
  (.cond (.t 15) .skip (.exit 0)))
  (.seq (.block 1 (.seq (.reg [⟨(some 19), 304, none, .mv (.t 0)⟩,
    ⟨(some 20), 320, none, .mv (.t 6)⟩,
    ⟨(some 21), 336, none, .mv (.t 6)⟩,
    ⟨(some 22), 352, none, .bi false .add (.t 21) (.c (.int .i64 12))⟩,
    ⟨(some 23), 368, none, .mv (.t 0)⟩,
    ⟨(some 24), 384, none, .len (.t 23)⟩,
    ⟨(some 25), 400, none, .mn [(.t 22), (.t 24)]⟩,
    ⟨(some 26), 416, none, .slc 1 (.t 19) (some (.t 20)) (some (.t 25))⟩,
    ⟨(some 27), 432, none, .call (.c (.fn (.func 35) [] [])) [(.t 26)]⟩,
    ⟨(some 18), 288, none, .mv (.t 27)⟩,
    ⟨(some 28), 448, none, .ex (.t 18) 0⟩,
    ⟨(some 29), 464, none, .ex (.t 18) 1⟩,
    ⟨(some 7), 112, none, .al [(.int .i64 0), (.int .i64 0), (.int .i64 0), (.int .i64 0)]⟩,
    ⟨none, 0, none, .st 4 (.t 7) (.t 28)⟩,
    ⟨(some 8), 128, none, .mv (.t 29)⟩])
  (.seq (.seq (.reg [⟨(some 30), 480, none, .mv (.t 8)⟩,
    ⟨(some 31), 496, none, .bi false .neq (.t 30) (.c (.int .i64 0))⟩])
  (.cond (.t 31) (.seq (.reg [⟨(some 32), 512, none, .mv (.t 6)⟩,
    ⟨(some 33), 528, none, .mv (.t 8)⟩,
    ⟨(some 2), 32, none, .mv (.c (.nil 4))⟩,
    ⟨(some 3), 48, none, .mv (.t 32)⟩,
    ⟨(some 4), 64, none, .mv (.t 33)⟩])
  .ret) .skip))
  (.reg [⟨(some 34), 544, none, .mv (.t 5)⟩,
    ⟨(some 35), 560, none, .ld 4 true (.t 7)⟩,
    ⟨(some 36), 576, none, .bs 23 4 [(.t 35)]⟩,
    ⟨(some 37), 592, none, .app 23 4 32 (.t 34) (.t 36)⟩,
    ⟨(some 5), 80, none, .mv (.t 37)⟩]))))
  (.reg [⟨(some 16), 256, none, .mv (.t 6)⟩,
    ⟨(some 17), 272, none, .bi false .add (.t 16) (.c (.int .i64 12))⟩,
    ⟨(some 6), 96, none, .mv (.t 17)⟩])))
def c18 : C := (.seq (.reg [⟨(some 2), 32, none, .mv (.c (.nil 4))⟩,
    ⟨(some 3), 48, none, .mv (.c (.int .i64 0))⟩,
    ⟨(some 4), 64, none, .mv (.c (.int .i64 0))⟩])
  (.seq (.seq (.reg [⟨(some 9), 144, none, .mv (.t 0)⟩,
    ⟨(some 10), 160, none, .len (.t 9)⟩,
    ⟨(some 11), 176, none, .bi false .gtr (.t 10) (.c (.int .i64 49152))⟩])
  (.cond (.t 11) (.seq (.reg [⟨(some 2), 32, none, .mv (.c (.nil 4))⟩,
    ⟨(some 3), 48, none, .mv (.c (.int .i64 0))⟩,
    ⟨(some 4), 64, none, .mv (.c (.int .i64 10))⟩])
  .ret) .skip))
  (.seq (.reg [⟨(some 5), 80, none, .mv (.c (.nil 4))⟩])
  (.seq (.seq (.reg [⟨(some 6), 96, none, .mv (.c (.int .i64 0))⟩])
  (.block 0 (.loop c18L1)))
  (.seq (.reg [⟨(some 38), 608, none, .mv (.t 5)⟩,
    ⟨(some 2), 32, none, .mv (.t 38)⟩,
    ⟨(some 3), 48, none, .mv (.c (.int .i64 0))⟩,
    ⟨(some 4), 64, none, .mv (.c (.int .i64 0))⟩])
  .ret)))))
theorem fits18 : fits Tryd.prog false Tryd.f18 1 39 [(2, none), (3, none), (4, none)] = some c18.er := by kernel_rfl
def c21L1 : C := (.seq (.seq (.reg [⟨(some 13), 208, none, .mv (.t 6)⟩,
    ⟨(some 14), 224, none, .mv (.t 0)⟩,
    ⟨(some 15), 240, none, .len (.t 14)⟩,
    ⟨(some 16), 256, none, .bi false .lss (.t 13) (.t 15)⟩])
  (.cond (.t 16) .skip (.exit 0)))
  (.seq (.block 1 (.seq (.seq (.reg [⟨(some 19), 304, none, .mv (.t 0)⟩,
    ⟨(some 20), 320, none, .len (.t 19)⟩,
    ⟨(some 21), 336, none, .mv (.t 6)⟩,
    ⟨(some 22), 352, none, .bi false .sub (.t 20) (.t 21)⟩,
    ⟨(some 23), 368, none, .bi false .lss (.t 22) (.c (.int .i64 12))⟩])
  (.cond (.t 23) (.seq (.reg [⟨(some 24), 384, none, .mv (.t 6)⟩,
    ⟨(some 2), 32, none, .mv (.c (.nil 4))⟩,
    ⟨(some 3), 48, none, .mv (.t 24)⟩,
    ⟨(some 4), 64, none, .mv (.c (.int .i64 3))⟩])
  .ret) .skip))
  (.seq (.reg [⟨(some 25), 400, none, .mv (.t 0)⟩,
    ⟨(some 26), 416, none, .mv (.t 6)⟩,
    ⟨(some 27), 432, none, .mv (.t 6)⟩,
    ⟨(some 28), 448, none, .bi false .add (.t 27) (.c (.int .i64 12))⟩,
    ⟨(some 29), 464, none, .slc 1 (.t 25) (some (.t 26)) (some (.t 28))⟩,
    ⟨(some 7), 112, none, .mv (.t 29)⟩])
  (.seq (.seq (.drw [⟨(some 30), 480, none, .mv (.t 7)⟩,
    ⟨(some 31), 496, none, .slc 1 (.t 30) none (some (.c (.int .i64 10)))⟩,
    ⟨(some 32), 512, none, .call (.c (.fn (.func 29) [] [])) [(.t 31)]⟩,
    ⟨(some 33), 528, none, .mv (.t 7)⟩,
    ⟨(some 34), 544, none, .ia 1 (.t 33) (.c (.int .i64 10))⟩,
    ⟨(some 35), 560, none, .ld 1 false (.t 34)⟩,
    ⟨(some 36), 576, none, .cv false .i64 (.t 35)⟩,
    ⟨(some 37), 592, none, .bi false .shl (.t 36) (.c (.int .u64 8))⟩,
    ⟨(some 38), 608, none, .mv (.t 7)⟩,
    ⟨(some 39), 624, none, .ia 1 (.t 38) (.c (.int .i64 11))⟩,
    ⟨(some 40), 640, none, .ld 1 false (.t 39)⟩,
    ⟨(some 41), 656, none, .cv false .i64 (.t 40)⟩,
    ⟨(some 42), 672, none, .bi false .or (.t 37) (.t 41)⟩,
    ⟨(some 43), 688, none, .bi false .neq (.t 32) (.t 42)⟩]
    [(0, 3, 30), (0, 4, 30), (0, 5, 30), (0, 6, 30), (0, 7, 30), (0, 8, 30), (0, 9, 30), (0, 10, 30), (0, 11, 30), (0, 12, 30), (1, 3, 31), (1, 4, 31), (1, 5, 31), (1, 6, 31), (1, 7, 31), (1, 8, 31), (1, 9, 31), (1, 10, 31), (1, 11, 31), (1, 12, 31), (2, 3, 32), (2, 4, 32), (2, 5, 32), (2, 6, 32), (2, 7, 32), (2, 8, 32), (2, 9, 32), (2, 10, 32), (2, 11, 32), (2, 12, 32), (3, 8, 33), (3, 9, 33), (3, 10, 33), (3, 11, 33), (4, 8, 34), (4, 9, 34), (4, 10, 34), (4, 11, 34), (5, 8, 35), (5, 9, 35), (5, 10, 35), (5, 11, 35), (6, 8, 36), (6, 9, 36), (6, 10, 36), (6, 11, 36), (7, 8, 37), (7, 9, 37), (7, 10, 37), (7, 11, 37)])
  (.cond (.t 43) (.seq (.reg [⟨(some 44), 704, none, .mv (.t 6)⟩,
    ⟨(some 2), 32, none, .mv (.c (.nil 4))⟩,
    ⟨(some 3), 48, none, .mv (.t 44)⟩,
    ⟨(some 4), 64, none, .mv (.c (.int .i64 8))⟩])
  .ret) .skip))
  (.seq (.drw [⟨(some 45), 720, none, .mv (.t 7)⟩,
    ⟨(some 46), 736, none, .ia 1 (.t 45) (.c (.int .i64 0))⟩,
    ⟨(some 47), 752, none, .ld 1 false (.t 46)⟩,
    ⟨(some 48), 768, none, .cv false .i64 (.t 47)⟩,
    ⟨(some 49), 784, none, .mv (.t 7)⟩,
    ⟨(some 50), 800, none, .slc 1 (.t 49) (some (.c (.int .i64 1))) (some (.c (.int .i64 5)))⟩,
    ⟨(some 51), 816, none, .call (.c (.fn (.func 39) [] [])) [(.t 50)]⟩,
    ⟨(some 52), 832, none, .mv (.t 7)⟩,
    ⟨(some 53), 848, none, .slc 1 (.t 52) (some (.c (.int .i64 5))) (some (.c (.int .i64 9)))⟩,
    ⟨(some 54), 864, none, .call (.c (.fn (.func 39) [] [])) [(.t 53)]⟩,
    ⟨(some 55), 880, none, .mv (.t 7)⟩,
    ⟨(some 56), 896, none, .ia 1 (.t 55) (.c (.int .i64 9))⟩,
    ⟨(some 57), 912, none, .ld 1 false (.t 56)⟩,
    ⟨(some 58), 928, none, .cv false .i64 (.t 57)⟩,
    ⟨(some 59), 944, none, .bd [(.int .i64 0), (.int .i64 0), (.int .i64 0), (.int .i64 0)] [(0, 1, (.t 48)), (1, 1, (.t 51)), (2, 1, (.t 54)), (3, 1, (.t 58))]⟩,
    ⟨(some 8), 128, none, .al [(.int .i64 0), (.int .i64 0), (.int .i64 0), (.int .i64 0)]⟩,
    ⟨none, 0, none, .st 4 (.t 8) (.t 59)⟩]
    [(0, 4, 45), (0, 5, 45), (0, 6, 45), (0, 7, 45), (0, 8, 45), (0, 9, 45), (0, 10, 45), (0, 11, 45), (0, 12, 45), (0, 13, 45), (0, 15, 45), (1, 4, 46), (1, 5, 46), (1, 6, 46), (1, 7, 46), (1, 8, 46), (1, 9, 46), (1, 10, 46), (1, 11, 46), (1, 12, 46), (1, 13, 46), (1, 15, 46), (2, 4, 47), (2, 5, 47), (2, 6, 47), (2, 7, 47), (2, 8, 47), (2, 9, 47), (2, 10, 47), (2, 11, 47), (2, 12, 47), (2, 13, 47), (2, 15, 47), (3, 4, 48), (3, 5, 48), (3, 6, 48), (3, 7, 48), (3, 8, 48), (3, 9, 48), (3, 10, 48), (3, 11, 48), (3, 12, 48), (3, 13, 48), (3, 15, 48), (4, 7, 49), (4, 8, 49), (4, 10, 49), (4, 11, 49), (4, 12, 49), (4, 13, 49), (4, 15, 49), (5, 7, 50), (5, 8, 50), (5, 10, 50), (5, 11, 50), (5, 12, 50), (5, 13, 50), (5, 15, 50), (6, 7, 51), (6, 8, 51), (6, 10, 51), (6, 11, 51), (6, 12, 51), (6, 13, 51), (6, 15, 51), (7, 10, 52), (7, 11, 52), (7, 12, 52), (7, 13, 52), (7, 15, 52), (8, 10, 53), (8, 11, 53), (8, 12, 53), (8, 13, 53), (8, 15, 53), (9, 10, 54), (9, 11, 54), (9, 12, 54), (9, 13, 54), (9, 15, 54), (10, 15, 55), (11, 15, 56), (12, 15, 57), (13, 15, 58), (14, 15, 59)])
  (.seq (.seq (.reg [⟨(some 60), 960, none, .ld 4 true (.t 8)⟩,
    ⟨(some 61), 976, none, .call (.c (.fn (.func 27) [] [])) [(.t 60)]⟩,
    ⟨(some 9), 144, none, .mv (.t 61)⟩])
  (.seq (.reg [⟨(some 62), 992, none, .mv (.t 9)⟩,
    ⟨(some 63), 1008, none, .bi false .neq (.t 62) (.c (.int .i64 0))⟩])
  (.cond (.t 63) (.seq (.reg [⟨(some 64), 1024, none, .mv (.t 6)⟩,
    ⟨(some 65), 1040, none, .mv (.t 9)⟩,
    ⟨(some 2), 32, none, .mv (.c (.nil 4))⟩,
    ⟨(some 3), 48, none, .mv (.t 64)⟩,
    ⟨(some 4), 64, none, .mv (.t 65)⟩])
  .ret) .skip)))
  (.reg [⟨(some 66), 1056, none, .mv (.t 5)⟩,
    ⟨(some 67), 1072, none, .ld 4 true (.t 8)⟩,
    ⟨(some 68), 1088, none, .bs 23 4 [(.t 67)]⟩,
    ⟨(some 69), 1104, none, .app 23 4 32 (.t 66) (.t 68)⟩,
    ⟨(some 5), 80, none, .mv (.t 69)⟩])))))))
  (.reg [⟨(some 17), 272, none, .mv (.t 6)⟩,
    ⟨(some 18), 288, none, .bi false .add (.t 17) (.c (.int .i64 12))⟩,
    ⟨(some 6), 96, none, .mv (.t 18)⟩])))
def c21 : C := (.seq (.reg [⟨(some 2), 32, none, .mv (.c (.nil 4))⟩,
    ⟨(some 3), 48, none, .mv (.c (.int .i64 0))⟩,
    ⟨(some 4), 64, none, .mv (.c (.int .i64 0))⟩])
  (.seq (.seq (.reg [⟨(some 10), 160, none, .mv (.t 0)⟩,
    ⟨(some 11), 176, none, .len (.t 10)⟩,
    ⟨(some 12), 192, none, .bi false .gtr (.t 11) (.c (.int .i64 49152))⟩])
  (.cond (.t 12) (.seq (.reg [⟨(some 2), 32, none, .mv (.c (.nil 4))⟩,
    ⟨(some 3), 48, none, .mv (.c (.int .i64 0))⟩,
    ⟨(some 4), 64, none, .mv (.c (.int .i64 10))⟩])
  .ret) .skip))
  (.seq (.reg [⟨(some 5), 80, none, .mv (.c (.nil 4))⟩])
  (.seq (.seq (.reg [⟨(some 6), 96, none, .mv (.c (.int .i64 0))⟩])
  (.block 0 (.loop c21L1)))
  (.seq (.reg [⟨(some 70), 1120, none, .mv (.t 5)⟩,
    ⟨(some 2), 32, none, .mv (.t 70)⟩,
    ⟨(some 3), 48, none, .mv (.c (.int .i64 0))⟩,
    ⟨(some 4), 64, none, .mv (.c (.int .i64 0))⟩])
  .ret)))))
theorem fits21 : fits Tryd.prog false Tryd.f21 1 71 [(2, none), (3, none), (4, none)] = some c21.er := by kernel_rfl

theorem cut_any {α : Type} [Inhabited α] {e : α → List PV} {l : List α} {i n m : Nat} (h : n ≤ m) : RowEq n (fun k => fl e l (i + k)) (fl e ((l.drop i).take m)) := fun k hk => by
  simp only [fl]
  congr 1
  have : k < m := by omega
  simp [List.getD, List.getElem?_take, this, List.getElem?_drop]
theorem decG_bad {m i : Nat} {out : List Rd} {l : List UInt8} (h : i < l.length) (he : (recF ((l.drop i).take 12)).2 ≠ 0) : decG (m + 1) i out (l.drop i) = ([], (i : Int), (recF ((l.drop i).take 12)).2) := by
  simp only [decG]
  rw [if_neg (by rw [List.length_drop]; omega), if_pos he]
theorem decG_ok {m i : Nat} {out : List Rd} {l : List UInt8} (h : i < l.length) (he : (recF ((l.drop i).take 12)).2 = 0) : decG (m + 1) i out (l.drop i) = decG m ((i + 12 : Nat) : Int) (out ++ [(recF ((l.drop i).take 12)).1]) (l.drop (i + 12)) := by
  simp only [decG]
  rw [if_neg (by rw [List.length_drop]; omega), if_neg (by rw [he]; decide), List.drop_drop]
  rfl
theorem recF_short {l : List UInt8} (h : (recF l).2 = 0) : 12 ≤ l.length := by
  unfold recF at h
  split at h
  · cases h
  · omega
theorem decG_end {m : Nat} {a : Int} {out : List Rd} {l : List UInt8} : decG (m + 1) a out (l.drop l.length) = (out, 0, 0) := by
  simp only [decG]
  rw [if_pos (by simp)]
structure DecS where
  n : Nat
  i : Nat
  out : List Rd
def DInv (l : List UInt8) (x : DecS) : Prop := (x.i ≤ l.length ∧ l.length - x.i < x.n) ∧ 12 * x.out.length ≤ x.i ∧ decG x.n x.i x.out (l.drop x.i) = decF l

set_option maxRecDepth 100000 in
set_option maxHeartbeats 4000000 in
theorem call18 (τ : Nat) (hτ : τ ≤ 2) (l : List UInt8) (hl : l.length ≤ 4611686018427387904) : PureCall Tryd.prog 18 [.sl τ 1 l.length (fl eB l)] [] ⟨.tup [.sl 0 4 (decF l).1.length (fl eRd (decF l).1), .int .i64 (decF l).2.1, .int .i64 (decF l).2.2], [], []⟩ := by
  have hlt : lendT τ ≤ 2 := lendT_mono (b := 2) hτ
  refine pure_call mix Tryd.func18 fits18 rfl ?_
  conv => whnf
  refine ⟨?_, fun hc => ?_, fun hc => ?_⟩
  · (try conv => whnf)
    (repeat' (first | exact True.intro | exact fun _ h => h | refine inR64_of ?_ ?_ | apply And.intro | refine maxLen_ge ?_)) <;> (first | omega | decide | (dsimp only; omega) | (dsimp only [List.length_cons, List.length_nil]; omega) | (intro hg; rw [hg]; rfl) | (intro hg hh; rw [hg, hh]; rfl) | (intro hg; simp [-List.getD_eq_getElem?_getD, -Int.default_eq_zero] at hg; first | omega | (refine inR64_of ?_ ?_ <;> omega) | (constructor <;> omega)) | (simp [-List.getD_eq_getElem?_getD, -Int.default_eq_zero]; done))
  · simp only [bif_t, bif_f, decide_eq_true_eq, decide_eq_false_iff_not, Bool.not_eq_true', Bool.not_eq_false', Bool.and_eq_true, Bool.or_eq_true, Bool.and_eq_false_iff, Bool.or_eq_false_iff, beq_iff_eq, bne_iff_ne, beq_eq_false_iff_ne, bne_eq_false_iff_eq, reduceCtorEq, false_and, and_false, true_and, and_true, or_false, false_or, or_true, true_or, not_true_eq_false, not_false_eq_true, Int.toNat_zero] at hc
    rw [show decF l = ([], 0, 10) by unfold decF; rw [if_pos (by omega)]]
    conv => whnf
    refine ⟨?_, [], ?_⟩
    · (try conv => whnf)
      (repeat' (first | exact True.intro | exact fun _ h => h | refine inR64_of ?_ ?_ | apply And.intro | refine maxLen_ge ?_)) <;> (first | omega | decide | (dsimp only; omega) | (dsimp only [List.length_cons, List.length_nil]; omega) | (intro hg; rw [hg]; rfl) | (intro hg hh; rw [hg, hh]; rfl) | (intro hg; simp [-List.getD_eq_getElem?_getD, -Int.default_eq_zero] at hg; first | omega | (refine inR64_of ?_ ?_ <;> omega) | (constructor <;> omega)) | (simp [-List.getD_eq_getElem?_getD, -Int.default_eq_zero]; done))
    conv => whnf
    refine ⟨rfl, ?_, trivial, trivial⟩
    all_goals repeat' (first | exact True.intro | refine leF_cons rfl ?_ ?_ | refine leS_cons rfl ?_ ?_ | (show PLe _ _ _ _; conv => whnf) | (show SLe _ _ _ _; conv => whnf) | (show PLeL _ _ _ _; conv => whnf) | apply And.intro | rfl | exact Nat.le_refl _ | exact fun _ _ => rfl | exact rowEq0 _ _)
  simp only [bif_t, bif_f, decide_eq_true_eq, decide_eq_false_iff_not, Bool.not_eq_true', Bool.not_eq_false', Bool.and_eq_true, Bool.or_eq_true, Bool.and_eq_false_iff, Bool.or_eq_false_iff, beq_iff_eq, bne_iff_ne, beq_eq_false_iff_ne, bne_eq_false_iff_eq, reduceCtorEq, false_and, and_false, true_and, and_true, or_false, false_or, or_true, true_or, not_true_eq_false, not_false_eq_true, Int.toNat_zero] at hc
  have hl2 : l.length ≤ 49152 := by omega
  have h0 : decG (l.length + 1) (0 : Nat) [] (l.drop 0) = decF l := by unfold decF; rw [if_neg (by omega)]; rfl
  conv => whnf
  refine ⟨trivial, ?_⟩
  refine LSem.adopt 5 1000000 23 4 4 rfl rfl ?_
  refine LSem.loop (n := 39) mix (α := DecS) (DInv l)
    (fun x => [(0, .sl τ 1 l.length (fl eB l)), (5, .os 1000000), (6, .int .i64 x.i)])
    (fun x => [(1000000, .row 0 23 4 x.out.length (fl eRd x.out))]) (fun x => l.length - x.i) ⟨l.length + 1, 0, []⟩ ?_ ?_ ?_
  · exact ⟨⟨Nat.zero_le _, by dsimp only; omega⟩, Nat.le_refl _, h0⟩
  · refine ⟨rfl, rfl, ?_, ?_⟩
    all_goals repeat' (first | exact True.intro | refine leF_cons rfl ?_ ?_ | refine leS_cons rfl ?_ ?_ | (show PLe _ _ _ _; conv => whnf) | (show SLe _ _ _ _; conv => whnf) | (show PLeL _ _ _ _; conv => whnf) | apply And.intro | rfl | exact Nat.le_refl _ | exact fun _ _ => rfl | exact rowEq0 _ _)
    all_goals skip
  · intro x hx
    obtain ⟨n, i, out⟩ := x
    obtain ⟨⟨hi, hn⟩, ho, hd⟩ := hx
    dsimp only at hi hn ho hd
    have hj : ((i : Int)).toNat = i := by omega
    obtain ⟨m, rfl⟩ : ∃ m, n = m + 1 := ⟨n - 1, by omega⟩
    conv => whnf
    refine ⟨trivial, fun hc => ?_, fun hc => ?_⟩
    · replace hc := of_decide_eq_true hc
      have hlti : i < l.length := by
        have h : (i : Int) < l.length := hc
        omega
      obtain ⟨X, hX⟩ : ∃ X, X = (l.drop i).take 12 := ⟨_, rfl⟩
      have hXl : X.length = min 12 (l.length - i) := by rw [hX, List.length_take, List.length_drop]
      conv => whnf
      dsimp only
      rw [hj]
      refine ⟨_, fun _ => PureCall.arg_le (call35 2 (Nat.le_refl _) X (by omega)) rfl ⟨⟨hlt, rfl, ?_, ?_⟩, trivial⟩, ?_⟩
      · rw [hXl]; split <;> omega
      · rw [hX]; refine cut_any ?_; split <;> omega
      conv => whnf
      refine ⟨?_, fun h1 => ?_, fun h1 => ?_⟩
      · refine ⟨⟨⟨True.intro, ?_⟩, ?_⟩, True.intro⟩
        · refine inR64_of ?_ ?_ <;> omega
        · split <;> omega
      · have hE : (recF X).2 ≠ 0 := by simpa using h1
        rw [← hd, decG_bad hlti (by rw [← hX]; exact hE), ← hX]
        conv => whnf
        refine ⟨?_, [], ?_⟩
        · (try conv => whnf)
          (repeat' (first | exact True.intro | exact fun _ h => h | refine inR64_of ?_ ?_ | apply And.intro | refine maxLen_ge ?_)) <;> (first | omega | decide | (dsimp only; omega) | (dsimp only [List.length_cons, List.length_nil]; omega) | (intro hg; rw [hg]; rfl) | (intro hg hh; rw [hg, hh]; rfl) | (intro hg; simp [-List.getD_eq_getElem?_getD, -Int.default_eq_zero] at hg; first | omega | (refine inR64_of ?_ ?_ <;> omega) | (constructor <;> omega)) | (simp [-List.getD_eq_getElem?_getD, -Int.default_eq_zero]; done))
        conv => whnf
        refine ⟨rfl, ?_, trivial, trivial⟩
        all_goals repeat' (first | exact True.intro | refine leF_cons rfl ?_ ?_ | refine leS_cons rfl ?_ ?_ | (show PLe _ _ _ _; conv => whnf) | (show SLe _ _ _ _; conv => whnf) | (show PLeL _ _ _ _; conv => whnf) | apply And.intro | rfl | exact Nat.le_refl _ | exact fun _ _ => rfl | exact rowEq0 _ _)
      · have hE : (recF X).2 = 0 := by simpa using h1
        have h12 := recF_short hE
        rw [hXl] at h12
        rw [decG_ok hlti (by rw [← hX]; exact hE), ← hX] at hd
        have q := fl_push eRd out (recF X).1
        have hx : (out ++ [(recF X).1]).length = out.length + 1 := by simp
        conv => whnf
        refine ⟨?_, ⟨m, i + 12, out ++ [(recF X).1]⟩, ⟨⟨?_, ?_⟩, ?_, hd⟩, ?_, rfl, rfl, ?_, ?_⟩
        · (try conv => whnf)
          (repeat' (first | exact True.intro | exact fun _ h => h | refine inR64_of ?_ ?_ | apply And.intro | refine maxLen_ge ?_)) <;> (first | omega | decide | (dsimp only; omega) | (dsimp only [List.length_cons, List.length_nil]; omega) | (intro hg; rw [hg]; rfl) | (intro hg hh; rw [hg, hh]; rfl) | (intro hg; simp [-List.getD_eq_getElem?_getD, -Int.default_eq_zero] at hg; first | omega | (refine inR64_of ?_ ?_ <;> omega) | (constructor <;> omega)) | (simp [-List.getD_eq_getElem?_getD, -Int.default_eq_zero]; done))
        · dsimp only; omega
        · dsimp only; omega
        · dsimp only; rw [hx]; omega
        · dsimp only; omega
        all_goals repeat' (first | exact True.intro | refine leF_cons rfl ?_ ?_ | refine leS_cons rfl ?_ ?_ | (show PLe _ _ _ _; conv => whnf) | (show SLe _ _ _ _; conv => whnf) | (show PLeL _ _ _ _; conv => whnf) | apply And.intro | rfl | exact Nat.le_refl _ | exact fun _ _ => rfl | exact rowEq0 _ _)
        all_goals first | exact q | (dsimp only; rw [hx]; rfl) | (dsimp only; rw [hx]) | omega | skip
    · replace hc := of_decide_eq_false hc
      have hk : i = l.length := by
        have h : ¬ (i : Int) < l.length := hc
        omega
      subst hk
      rw [decG_end] at hd
      rw [← hd]
      conv => whnf
      refine ⟨?_, [], ?_⟩
      · (try conv => whnf)
        (repeat' (first | exact True.intro | exact fun _ h => h | refine inR64_of ?_ ?_ | apply And.intro | refine maxLen_ge ?_)) <;> (first | omega | decide | (dsimp only; omega) | (dsimp only [List.length_cons, List.length_nil]; omega) | (intro hg; rw [hg]; rfl) | (intro hg hh; rw [hg, hh]; rfl) | (intro hg; simp [-List.getD_eq_getElem?_getD, -Int.default_eq_zero] at hg; first | omega | (refine inR64_of ?_ ?_ <;> omega) | (constructor <;> omega)) | (simp [-List.getD_eq_getElem?_getD, -Int.default_eq_zero]; done))
      conv => whnf
      refine ⟨rfl, ?_, trivial, trivial⟩
      all_goals repeat' (first | exact True.intro | refine leF_cons rfl ?_ ?_ | refine leS_cons rfl ?_ ?_ | (show PLe _ _ _ _; conv => whnf) | (show SLe _ _ _ _; conv => whnf) | (show PLeL _ _ _ _; conv => whnf) | apply And.intro | rfl | exact Nat.le_refl _ | exact fun _ _ => rfl | exact rowEq0 _ _)
set_option maxRecDepth 100000 in
set_option maxHeartbeats 4000000 in
theorem call21 (τ : Nat) (hτ : τ ≤ 2) (l : List UInt8) (hl : l.length ≤ 4611686018427387904) : PureCall Tryd.prog 21 [.sl τ 1 l.length (fl eB l)] [] ⟨.tup [.sl 0 4 (decF l).1.length (fl eRd (decF l).1), .int .i64 (decF l).2.1, .int .i64 (decF l).2.2], [], []⟩ := by
  have hlt : lendT τ ≤ 2 := lendT_mono (b := 2) hτ
  refine pure_call mix Tryd.func21 fits21 rfl ?_
  conv => whnf
  refine ⟨?_, fun hc => ?_, fun hc => ?_⟩
  · (try conv => whnf)
    (repeat' (first | exact True.intro | exact fun _ h => h | refine inR64_of ?_ ?_ | apply And.intro | refine maxLen_ge ?_)) <;> (first | omega | decide | (dsimp only; omega) | (dsimp only [List.length_cons, List.length_nil]; omega) | (intro hg; rw [hg]; rfl) | (intro hg hh; rw [hg, hh]; rfl) | (intro hg; simp [-List.getD_eq_getElem?_getD, -Int.default_eq_zero] at hg; first | omega | (refine inR64_of ?_ ?_ <;> omega) | (constructor <;> omega)) | (simp [-List.getD_eq_getElem?_getD, -Int.default_eq_zero]; done))
  · simp only [bif_t, bif_f, decide_eq_true_eq, decide_eq_false_iff_not, Bool.not_eq_true', Bool.not_eq_false', Bool.and_eq_true, Bool.or_eq_true, Bool.and_eq_false_iff, Bool.or_eq_false_iff, beq_iff_eq, bne_iff_ne, beq_eq_false_iff_ne, bne_eq_false_iff_eq, reduceCtorEq, false_and, and_false, true_and, and_true, or_false, false_or, or_true, true_or, not_true_eq_false, not_false_eq_true, Int.toNat_zero] at hc
    rw [show decF l = ([], 0, 10) by unfold decF; rw [if_pos (by omega)]]
    conv => whnf
    refine ⟨?_, [], ?_⟩
    · (try conv => whnf)
      (repeat' (first | exact True.intro | exact fun _ h => h | refine inR64_of ?_ ?_ | apply And.intro | refine maxLen_ge ?_)) <;> (first | omega | decide | (dsimp only; omega) | (dsimp only [List.length_cons, List.length_nil]; omega) | (intro hg; rw [hg]; rfl) | (intro hg hh; rw [hg, hh]; rfl) | (intro hg; simp [-List.getD_eq_getElem?_getD, -Int.default_eq_zero] at hg; first | omega | (refine inR64_of ?_ ?_ <;> omega) | (constructor <;> omega)) | (simp [-List.getD_eq_getElem?_getD, -Int.default_eq_zero]; done))
    conv => whnf
    refine ⟨rfl, ?_, trivial, trivial⟩
    all_goals repeat' (first | exact True.intro | refine leF_cons rfl ?_ ?_ | refine leS_cons rfl ?_ ?_ | (show PLe _ _ _ _; conv => whnf) | (show SLe _ _ _ _; conv => whnf) | (show PLeL _ _ _ _; conv => whnf) | apply And.intro | rfl | exact Nat.le_refl _ | exact fun _ _ => rfl | exact rowEq0 _ _)
  simp only [bif_t, bif_f, decide_eq_true_eq, decide_eq_false_iff_not, Bool.not_eq_true', Bool.not_eq_false', Bool.and_eq_true, Bool.or_eq_true, Bool.and_eq_false_iff, Bool.or_eq_false_iff, beq_iff_eq, bne_iff_ne, beq_eq_false_iff_ne, bne_eq_false_iff_eq, reduceCtorEq, false_and, and_false, true_and, and_true, or_false, false_or, or_true, true_or, not_true_eq_false, not_false_eq_true, Int.toNat_zero] at hc
  have hl2 : l.length ≤ 49152 := by omega
  have h0 : decG (l.length + 1) (0 : Nat) [] (l.drop 0) = decF l := by unfold decF; rw [if_neg (by omega)]; rfl
  conv => whnf
  refine ⟨trivial, ?_⟩
  refine LSem.adopt 5 1000000 23 4 4 rfl rfl ?_
  refine LSem.loop (n := 71) mix (α := DecS) (DInv l)
    (fun x => [(0, .sl τ 1 l.length (fl eB l)), (5, .os 1000000), (6, .int .i64 x.i)])
    (fun x => [(1000000, .row 0 23 4 x.out.length (fl eRd x.out))]) (fun x => l.length - x.i) ⟨l.length + 1, 0, []⟩ ?_ ?_ ?_
  · exact ⟨⟨Nat.zero_le _, by dsimp only; omega⟩, Nat.le_refl _, h0⟩
  · refine ⟨rfl, rfl, ?_, ?_⟩
    all_goals repeat' (first | exact True.intro | refine leF_cons rfl ?_ ?_ | refine leS_cons rfl ?_ ?_ | (show PLe _ _ _ _; conv => whnf) | (show SLe _ _ _ _; conv => whnf) | (show PLeL _ _ _ _; conv => whnf) | apply And.intro | rfl | exact Nat.le_refl _ | exact fun _ _ => rfl | exact rowEq0 _ _)
    all_goals skip
  · intro x hx
    obtain ⟨n, i, out⟩ := x
    obtain ⟨⟨hi, hn⟩, ho, hd⟩ := hx
    dsimp only at hi hn ho hd
    have hj : ((i : Int)).toNat = i := by omega
    obtain ⟨m, rfl⟩ : ∃ m, n = m + 1 := ⟨n - 1, by omega⟩
    conv => whnf
    refine ⟨trivial, fun hc => ?_, fun hc => ?_⟩
    · replace hc := of_decide_eq_true hc
      have hlti : i < l.length := by
        have h : (i : Int) < l.length := hc
        omega
      obtain ⟨X, hX⟩ : ∃ X, X = (l.drop i).take 12 := ⟨_, rfl⟩
      have hXl : X.length = min 12 (l.length - i) := by rw [hX, List.length_take, List.length_drop]
      conv => whnf
      refine ⟨?_, fun h1 => ?_, fun h1 => ?_⟩
      · (try conv => whnf)
        (repeat' (first | exact True.intro | exact fun _ h => h | refine inR64_of ?_ ?_ | apply And.intro | refine maxLen_ge ?_)) <;> (first | omega | decide | (dsimp only; omega) | (dsimp only [List.length_cons, List.length_nil]; omega) | (intro hg; rw [hg]; rfl) | (intro hg hh; rw [hg, hh]; rfl) | (intro hg; simp [-List.getD_eq_getElem?_getD, -Int.default_eq_zero] at hg; first | omega | (refine inR64_of ?_ ?_ <;> omega) | (constructor <;> omega)) | (simp [-List.getD_eq_getElem?_getD, -Int.default_eq_zero]; done))
      · simp only [bif_t, bif_f, decide_eq_true_eq, decide_eq_false_iff_not, Bool.not_eq_true', Bool.not_eq_false', Bool.and_eq_true, Bool.or_eq_true, Bool.and_eq_false_iff, Bool.or_eq_false_iff, beq_iff_eq, bne_iff_ne, beq_eq_false_iff_ne, bne_eq_false_iff_eq, reduceCtorEq, false_and, and_false, true_and, and_true, or_false, false_or, or_true, true_or, not_true_eq_false, not_false_eq_true, Int.toNat_zero] at h1
        have hE : recF X = (rd0, 3) := by unfold recF; rw [if_pos (by omega)]
        rw [← hd, decG_bad hlti (by rw [← hX, hE]; decide), ← hX, hE]
        conv => whnf
        refine ⟨?_, [], ?_⟩
        · (try conv => whnf)
          (repeat' (first | exact True.intro | exact fun _ h => h | refine inR64_of ?_ ?_ | apply And.intro | refine maxLen_ge ?_)) <;> (first | omega | decide | (dsimp only; omega) | (dsimp only [List.length_cons, List.length_nil]; omega) | (intro hg; rw [hg]; rfl) | (intro hg hh; rw [hg, hh]; rfl) | (intro hg; simp [-List.getD_eq_getElem?_getD, -Int.default_eq_zero] at hg; first | omega | (refine inR64_of ?_ ?_ <;> omega) | (constructor <;> omega)) | (simp [-List.getD_eq_getElem?_getD, -Int.default_eq_zero]; done))
        conv => whnf
        refine ⟨rfl, ?_, trivial, trivial⟩
        all_goals repeat' (first | exact True.intro | refine leF_cons rfl ?_ ?_ | refine leS_cons rfl ?_ ?_ | (show PLe _ _ _ _; conv => whnf) | (show SLe _ _ _ _; conv => whnf) | (show PLeL _ _ _ _; conv => whnf) | apply And.intro | rfl | exact Nat.le_refl _ | exact fun _ _ => rfl | exact rowEq0 _ _)
      simp only [bif_t, bif_f, decide_eq_true_eq, decide_eq_false_iff_not, Bool.not_eq_true', Bool.not_eq_false', Bool.and_eq_true, Bool.or_eq_true, Bool.and_eq_false_iff, Bool.or_eq_false_iff, beq_iff_eq, bne_iff_ne, beq_eq_false_iff_ne, bne_eq_false_iff_eq, reduceCtorEq, false_and, and_false, true_and, and_true, or_false, false_or, or_true, true_or, not_true_eq_false, not_false_eq_true, Int.toNat_zero] at h1
      have h12 : i + 12 ≤ l.length := by omega
      have b0 : 0 ≤ ((l.getD (i + 0) default).toNat : Int) ∧ ((l.getD (i + 0) default).toNat : Int) < 256 := gB_rng l (i + 0)
      have b9 : 0 ≤ ((l.getD (i + 9) default).toNat : Int) ∧ ((l.getD (i + 9) default).toNat : Int) < 256 := gB_rng l (i + 9)
      have b10 : 0 ≤ ((l.getD (i + 10) default).toNat : Int) ∧ ((l.getD (i + 10) default).toNat : Int) < 256 := gB_rng l (i + 10)
      have b11 : 0 ≤ ((l.getD (i + 11) default).toNat : Int) ∧ ((l.getD (i + 11) default).toNat : Int) < 256 := gB_rng l (i + 11)
      have hj2 : ((i : Int) + 12).toNat = i + 12 := by omega
      have hX10 : X.take 10 = (l.drop i).take 10 := by rw [hX, List.take_take]; rfl
      have hXg : ∀ k, k < 12 → gB X k = gB l (i + k) := fun k hk => by rw [hX]; exact gB_cut hk
      have hXw : ∀ k, k + 3 < 12 → wordF X k = wordF l (i + k) := fun k hk => by rw [hX]; exact wordF_cut hk
      conv => whnf
      dsimp only
      rw [hj]
      refine ⟨_, fun _ => PureCall.arg_le (call29 2 (X.take 10) (by rw [List.length_take]; omega)) rfl ⟨⟨hlt, rfl, ?_, ?_⟩, trivial⟩, ?_⟩
      · show 10 = _; rw [List.length_take]; omega
      · rw [hX10]; exact cut_any (Nat.le_refl _)
      conv => whnf
      refine ⟨rfl, ?_⟩
      conv => whnf
      refine ⟨?_, fun h2 => ?_, fun h2 => ?_⟩
      · simp only [pw8, tn10, tn11, orD, mx64]
        (try conv => whnf)
        (repeat' (first | exact True.intro | exact fun _ h => h | refine inR64_of ?_ ?_ | apply And.intro | refine maxLen_ge ?_)) <;> (first | omega | decide | (dsimp only; omega) | (dsimp only [List.length_cons, List.length_nil]; omega) | (intro hg; rw [hg]; rfl) | (intro hg hh; rw [hg, hh]; rfl) | (intro hg; simp [-List.getD_eq_getElem?_getD, -Int.default_eq_zero] at hg; first | omega | (refine inR64_of ?_ ?_ <;> omega) | (constructor <;> omega)) | (simp [-List.getD_eq_getElem?_getD, -Int.default_eq_zero]; done))
      · have hs : sumF (X.take 10) ≠ gB X 10 * 256 + gB X 11 := by
          simp only [pw8, tn10, tn11, orD] at h2
          simp only [bif_t, bif_f, decide_eq_true_eq, decide_eq_false_iff_not, Bool.not_eq_true', Bool.not_eq_false', Bool.and_eq_true, Bool.or_eq_true, Bool.and_eq_false_iff, Bool.or_eq_false_iff, beq_iff_eq, bne_iff_ne, beq_eq_false_iff_ne, bne_eq_false_iff_eq, reduceCtorEq, false_and, and_false, true_and, and_true, or_false, false_or, or_true, true_or, not_true_eq_false, not_false_eq_true, Int.toNat_zero] at h2
          rw [hXg 10 (by omega), hXg 11 (by omega)]
          unfold gB; omega
        have hE : recF X = (rd0, 8) := by unfold recF; rw [if_neg (by omega), if_pos hs]
        rw [← hd, decG_bad hlti (by rw [← hX, hE]; decide), ← hX, hE]
        conv => whnf
        refine ⟨?_, [], ?_⟩
        · (try conv => whnf)
          (repeat' (first | exact True.intro | exact fun _ h => h | refine inR64_of ?_ ?_ | apply And.intro | refine maxLen_ge ?_)) <;> (first | omega | decide | (dsimp only; omega) | (dsimp only [List.length_cons, List.length_nil]; omega) | (intro hg; rw [hg]; rfl) | (intro hg hh; rw [hg, hh]; rfl) | (intro hg; simp [-List.getD_eq_getElem?_getD, -Int.default_eq_zero] at hg; first | omega | (refine inR64_of ?_ ?_ <;> omega) | (constructor <;> omega)) | (simp [-List.getD_eq_getElem?_getD, -Int.default_eq_zero]; done))
        conv => whnf
        refine ⟨rfl, ?_, trivial, trivial⟩
        all_goals repeat' (first | exact True.intro | refine leF_cons rfl ?_ ?_ | refine leS_cons rfl ?_ ?_ | (show PLe _ _ _ _; conv => whnf) | (show SLe _ _ _ _; conv => whnf) | (show PLeL _ _ _ _; conv => whnf) | apply And.intro | rfl | exact Nat.le_refl _ | exact fun _ _ => rfl | exact rowEq0 _ _)
      have hs : ¬ sumF (X.take 10) ≠ gB X 10 * 256 + gB X 11 := by
        simp only [pw8, tn10, tn11, orD] at h2
        simp only [bif_t, bif_f, decide_eq_true_eq, decide_eq_false_iff_not, Bool.not_eq_true', Bool.not_eq_false', Bool.and_eq_true, Bool.or_eq_true, Bool.and_eq_false_iff, Bool.or_eq_false_iff, beq_iff_eq, bne_iff_ne, beq_eq_false_iff_ne, bne_eq_false_iff_eq, reduceCtorEq, false_and, and_false, true_and, and_true, or_false, false_or, or_true, true_or, not_true_eq_false, not_false_eq_true, Int.toNat_zero] at h2
        rw [hXg 10 (by omega), hXg 11 (by omega)]
        unfold gB; omega
      have hE : recF X = (recV X, checkR (recV X)) := by unfold recF; rw [if_neg (by omega), if_neg hs]
      have hV : recV X = ⟨gB l (i + 0), wordF l (i + 1), wordF l (i + 5), gB l (i + 9)⟩ := by
        unfold recV; rw [hXg 0 (by omega), hXg 9 (by omega), hXw 1 (by omega), hXw 5 (by omega)]
      have c1 : PureCall Tryd.prog 39 [.sl 2 1 ((l.drop (i + 1)).take 4).length (fl eB ((l.drop (i + 1)).take 4))] [] ⟨.int .i64 (wordF l (i + 1)), [], []⟩ := by
        have := call39 2 ((l.drop (i + 1)).take 4) (by rw [List.length_take, List.length_drop]; omega)
        rwa [wordF_cut (by omega)] at this
      have c5 : PureCall Tryd.prog 39 [.sl 2 1 ((l.drop (i + 5)).take 4).length (fl eB ((l.drop (i + 5)).take 4))] [] ⟨.int .i64 (wordF l (i + 5)), [], []⟩ := by
        have := call39 2 ((l.drop (i + 5)).take 4) (by rw [List.length_take, List.length_drop]; omega)
        rwa [wordF_cut (by omega)] at this
      conv => whnf
      refine ⟨_, fun _ => PureCall.arg_le c1 rfl ⟨⟨hlt, rfl, ?_, fun k hk => ?_⟩, trivial⟩, ?_⟩
      · show 4 = _; rw [List.length_take, List.length_drop]; omega
      · have := cut_any (e := eB) (l := l) (i := i + 1) (n := 4) (m := 4) (Nat.le_refl _) k hk
        rw [← this]
        show fl eB l (i + (1 + k)) = fl eB l (i + 1 + k)
        rw [Nat.add_assoc]
      conv => whnf
      refine ⟨_, fun _ => PureCall.arg_le c5 rfl ⟨⟨hlt, rfl, ?_, fun k hk => ?_⟩, trivial⟩, ?_⟩
      · show 4 = _; rw [List.length_take, List.length_drop]; omega
      · have := cut_any (e := eB) (l := l) (i := i + 5) (n := 4) (m := 4) (Nat.le_refl _) k hk
        rw [← this]
        show fl eB l (i + (5 + k)) = fl eB l (i + 5 + k)
        rw [Nat.add_assoc]
      conv => whnf
      refine ⟨rfl, ?_⟩
      conv => whnf
      refine ⟨_, fun _ => call27 ⟨gB l (i + 0), wordF l (i + 1), wordF l (i + 5), gB l (i + 9)⟩, ?_⟩
      rw [← hV]
      conv => whnf
      refine ⟨?_, fun h3 => ?_, fun h3 => ?_⟩
      · simp only [tn0, tn1, tn9]
        (try conv => whnf)
        (repeat' (first | exact True.intro | exact fun _ h => h | refine inR64_of ?_ ?_ | apply And.intro | refine maxLen_ge ?_)) <;> (first | omega | decide | (dsimp only; omega) | (dsimp only [List.length_cons, List.length_nil]; omega) | (intro hg; rw [hg]; rfl) | (intro hg hh; rw [hg, hh]; rfl) | (intro hg; simp [-List.getD_eq_getElem?_getD, -Int.default_eq_zero] at hg; first | omega | (refine inR64_of ?_ ?_ <;> omega) | (constructor <;> omega)) | (simp [-List.getD_eq_getElem?_getD, -Int.default_eq_zero]; done))
      · have hE2 : (recF X).2 ≠ 0 := by rw [hE]; simpa using h3
        rw [← hd, decG_bad hlti (by rw [← hX]; exact hE2), ← hX, hE]
        conv => whnf
        refine ⟨?_, [], ?_⟩
        · (try conv => whnf)
          (repeat' (first | exact True.intro | exact fun _ h => h | refine inR64_of ?_ ?_ | apply And.intro | refine maxLen_ge ?_)) <;> (first | omega | decide | (dsimp only; omega) | (dsimp only [List.length_cons, List.length_nil]; omega) | (intro hg; rw [hg]; rfl) | (intro hg hh; rw [hg, hh]; rfl) | (intro hg; simp [-List.getD_eq_getElem?_getD, -Int.default_eq_zero] at hg; first | omega | (refine inR64_of ?_ ?_ <;> omega) | (constructor <;> omega)) | (simp [-List.getD_eq_getElem?_getD, -Int.default_eq_zero]; done))
        conv => whnf
        refine ⟨rfl, ?_, trivial, trivial⟩
        all_goals repeat' (first | exact True.intro | refine leF_cons rfl ?_ ?_ | refine leS_cons rfl ?_ ?_ | (show PLe _ _ _ _; conv => whnf) | (show SLe _ _ _ _; conv => whnf) | (show PLeL _ _ _ _; conv => whnf) | apply And.intro | rfl | exact Nat.le_refl _ | exact fun _ _ => rfl | exact rowEq0 _ _)
      · have hE2 : (recF X).2 = 0 := by rw [hE]; simpa using h3
        rw [decG_ok hlti (by rw [← hX]; exact hE2), ← hX, hE, hV] at hd
        have q := fl_push eRd out ⟨gB l (i + 0), wordF l (i + 1), wordF l (i + 5), gB l (i + 9)⟩
        have hx : (out ++ [(⟨gB l (i + 0), wordF l (i + 1), wordF l (i + 5), gB l (i + 9)⟩ : Rd)]).length = out.length + 1 := by simp
        conv => whnf
        refine ⟨?_, ⟨m, i + 12, out ++ [⟨gB l (i + 0), wordF l (i + 1), wordF l (i + 5), gB l (i + 9)⟩]⟩, ⟨⟨?_, ?_⟩, ?_, hd⟩, ?_, rfl, rfl, ?_, ?_⟩
        · (try conv => whnf)
          (repeat' (first | exact True.intro | exact fun _ h => h | refine inR64_of ?_ ?_ | apply And.intro | refine maxLen_ge ?_)) <;> (first | omega | decide | (dsimp only; omega) | (dsimp only [List.length_cons, List.length_nil]; omega) | (intro hg; rw [hg]; rfl) | (intro hg hh; rw [hg, hh]; rfl) | (intro hg; simp [-List.getD_eq_getElem?_getD, -Int.default_eq_zero] at hg; first | omega | (refine inR64_of ?_ ?_ <;> omega) | (constructor <;> omega)) | (simp [-List.getD_eq_getElem?_getD, -Int.default_eq_zero]; done))
        · dsimp only; omega
        · dsimp only; omega
        · dsimp only; rw [hx]; omega
        · dsimp only; omega
        all_goals repeat' (first | exact True.intro | refine leF_cons rfl ?_ ?_ | refine leS_cons rfl ?_ ?_ | (show PLe _ _ _ _; conv => whnf) | (show SLe _ _ _ _; conv => whnf) | (show PLeL _ _ _ _; conv => whnf) | apply And.intro | rfl | exact Nat.le_refl _ | exact fun _ _ => rfl | exact rowEq0 _ _)
        all_goals first | exact q | (dsimp only; rw [hx]; rfl) | (dsimp only; rw [hx]) | omega | skip
    · replace hc := of_decide_eq_false hc
      have hk : i = l.length := by
        have h : ¬ (i : Int) < l.length := hc
        omega
      subst hk
      rw [decG_end] at hd
      rw [← hd]
      conv => whnf
      refine ⟨?_, [], ?_⟩
      · (try conv => whnf)
        (repeat' (first | exact True.intro | exact fun _ h => h | refine inR64_of ?_ ?_ | apply And.intro | refine maxLen_ge ?_)) <;> (first | omega | decide | (dsimp only; omega) | (dsimp only [List.length_cons, List.length_nil]; omega) | (intro hg; rw [hg]; rfl) | (intro hg hh; rw [hg, hh]; rfl) | (intro hg; simp [-List.getD_eq_getElem?_getD, -Int.default_eq_zero] at hg; first | omega | (refine inR64_of ?_ ?_ <;> omega) | (constructor <;> omega)) | (simp [-List.getD_eq_getElem?_getD, -Int.default_eq_zero]; done))
      conv => whnf
      refine ⟨rfl, ?_, trivial, trivial⟩
      all_goals repeat' (first | exact True.intro | refine leF_cons rfl ?_ ?_ | refine leS_cons rfl ?_ ?_ | (show PLe _ _ _ _; conv => whnf) | (show SLe _ _ _ _; conv => whnf) | (show PLeL _ _ _ _; conv => whnf) | apply And.intro | rfl | exact Nat.le_refl _ | exact fun _ _ => rfl | exact rowEq0 _ _)
end Pv
end Go.Proofs.YtgbknfbcjddnhaaDoor

set_option linter.unusedSimpArgs false
set_option linter.unusedVariables false
namespace Go.Proofs.YtgbknfbcjddnhaaDoor
namespace Pv
open Go.RowKit

/-- Block g holds the numbers l at its beginning. -/
def IntsIn (w : World) (g : Nat) (T : TypeId) (cap : Nat) (l : List Int) : Prop :=
  ∃ (cur : Array Value) (fz : Nat × Nat), w.heap[g]? = some (.cells cur T fz) ∧ fzOff cur.size fz ∧ l.length ≤ cap ∧ cap ≤ maxLen ∧ cur.size = cap * 1 ∧ cur.toList.take (l.length * 1) = l.map (Value.int .i64)

/-- The function turns the numbers l of a slice into l', in place; 'back': it gives the slice of l' back. -/
def InPlace (P : Program) (F : FuncId) (l l' : List Int) (back : Bool) : Prop :=
  (∃ fn, P.funcs[F]? = some fn ∧ fn.body.isSome = true ∧ (fn.name == "runtime.NumGoroutine") = false) ∧
  ∀ (w : World) (g cap : Nat) (T : TypeId), IntsIn w g T cap l → Calls P F #[.slice (some ⟨g, 0, none⟩) l.length cap] w fun e w' =>
    e = .returned (if back then .slice (some ⟨g, 0, none⟩) l'.length cap else .tuple #[]) ∧ Keeps (· = g) w w' ∧ IntsIn w' g T cap l'

section
variable {P : Program} {X : Cx} {γ : Gh} {w w0 : World} {may : Nat → Prop} {a : Act} {s : PS}

theorem call_wp {wr : Bool} {o : Oper} {F : FuncId} {y : A} {p : PV} {K : Act → World → Prop} {Q : Exit → Act → World → Prop} {R : Value → World → Prop}
    (hR : Rel X w0 may a w s γ) (hc : compI P wr o = some (.call (.c (.fn (.func F) [] [])) [y])) (hv : A.val s.fr y = some p)
    (hfn : ∃ fn, P.funcs[F]? = some fn ∧ fn.body.isSome = true ∧ (fn.name == "runtime.NumGoroutine") = false)
    (hC : ∀ v, Rep X γ w p v → Calls P F #[v] w fun e w' => ∃ u, e = .returned u ∧ R u w') (hK : ∀ u w', R u w' → K (a.put o.dst u) w') : o.wp P a w K Q := by
  have H := eval_opd hR
  have hcall : ∃ cl f y' ys, o.op = .call cl ∧ cl.callee = .value f ∧ arg f = some y' ∧ mapO (fun (q : Operand × TypeId) => argT P q.2 q.1) (cl.args.toList.zip cl.argTypes.toList) = some ys ∧ cl.args.size = cl.argTypes.size ∧ y' = .c (.fn (.func F) [] []) ∧ ys = [y] := by
    revert hc
    unfold compI
    intro hc
    repeat' (split at hc)
    all_goals first
      | (cases hc; done)
      | (injection hc with hc; injection hc; done)
      | (obtain ⟨y, hy, hh⟩ := Option.map_eq_some_iff.1 hc; cases hh; done)
      | (injection hc with hc; injection hc with e1 e2
         rename_i _ cl hop _ f hcal _ _ y' ys hy hys hsz
         exact ⟨_, _, _, _, hop, hcal, hy, hys, by simpa using hsz, e1, e2⟩)
  obtain ⟨cl, f, y', ys, hop, hcal, hy, hys, hsz, rfl, rfl⟩ := hcall
  have hz : (cl.args.toList.zip cl.argTypes.toList).map (fun q => a.eval q.1) = (cl.args.map a.eval).toList := by
    have hl : cl.args.toList.length = cl.argTypes.toList.length := by simpa using hsz
    have h1 : (cl.args.toList.zip cl.argTypes.toList).map (fun q => q.1) = cl.args.toList := List.map_fst_zip (by omega)
    rw [show (fun q : Operand × TypeId => a.eval q.1) = a.eval ∘ (fun q => q.1) from rfl, ← List.map_map, h1]
    simp
  have hr1 : Rep X γ w (.fn (.func F) [] []) (a.eval f) := arg_rep H hy (by rfl)
  have hr2 : RepL X γ w [p] (cl.args.map a.eval).toList := by
    have := argsT_rep (P := P) (α := Operand × TypeId) H (fun q => q.2) (fun q => q.1) (xs := cl.args.toList.zip cl.argTypes.toList) (ys := [y]) (ps := [p]) hys (by simp only [valL, hv])
    rwa [hz] at this
  obtain ⟨v, us, hvs, hrv, hrus⟩ := hr2.cons_inv
  have hus := hrus.nil_inv
  subst hus
  obtain ⟨fn, hfn1, hbody, hname⟩ := hfn
  have hfe : ∀ fv, Rep X γ w (.fn (.func F) [] []) fv → fv = .func (.func F) #[] #[] := by
    intro fv h
    cases h with
    | fn _ _ _ vs us hvl hul h h' =>
      have e1 : vs = [] := List.eq_nil_of_length_eq_zero hvl
      have e2 : us = [] := List.eq_nil_of_length_eq_zero hul
      subst e1 e2
      rfl
  have hfe := hfe _ hr1
  have hrun : (execOp a.eval o).run P w = .ok (.enter F #[v]) w := by
    unfold execOp
    rw [hop]
    have hb : fn.body ≠ none := by intro h; rw [h] at hbody; cases hbody
    have hnm : fn.name ≠ "runtime.NumGoroutine" := by simpa using hname
    have hav : cl.args.map a.eval = #[v] := by rw [← Array.toList_inj, hvs]
    simp [resolve, hcal, hfe, Deferred.ofValue, invoke, callFunc, hfn1, hb, hnm, hav]
  unfold Oper.wp
  rw [hrun]
  simp only [Oper.upon]
  refine (hC v hrv).mono ?_
  rintro e w' ⟨u, rfl, hu⟩
  exact hK u w' hu

/-! ### a row of numbers -/
theorem row_ints {ge : GE} {τ e : Nat} {f : Nat → List PV} {l : List Int} (h : RepS X γ w ge (.row τ e 1 l.length f)) (hf : RowEq l.length f (fl (fun n : Int => [PV.int .i64 n]) l)) (hl : 0 < l.length) :
    ∃ g cap, ge.hdr = .slice (some ⟨g, 0, none⟩) l.length cap ∧ ge.blk = some g ∧ ge.z = 1 ∧ IntsIn w g e cap l := by
  obtain ⟨vs, h1, h2, h3, h4, h5⟩ := h.rows
  have hvs : vs = l.map (Value.int .i64) := by
    refine List.ext_getElem? fun j => ?_
    have hlen : vs.length = l.length := by rw [h5.len, Nat.mul_one]
    by_cases hj : j < l.length
    · have hc : (f j)[0]? = some (.int .i64 (l.getD j default)) := by rw [hf j hj]; rfl
      have hu : vs[j]? = some (vs[j]'(by omega)) := List.getElem?_eq_getElem (by omega)
      have := h5.rep j 0 _ (vs[j]'(by omega)) hj hc (by rw [Nat.mul_one, Nat.add_zero]; exact hu)
      have hi : vs[j]'(by omega) = .int .i64 (l.getD j default) := by
        have h6 : Rep X γ w (.int .i64 (l.getD j default)) (vs[j]'(by omega)) := this
        exact h6.int_inv
      rw [hu, hi, List.getElem?_map, getD_some hj]; rfl
    · rw [List.getElem?_eq_none (by omega), List.getElem?_eq_none (by simp; omega)]
  subst hvs
  rcases h4.2 with ⟨_, h0⟩ | ⟨g, cap, cur, fz, hh, hg, hfz, hnc, hcm, hsz, htk⟩
  · omega
  · exact ⟨g, cap, hh, by rw [h2, hh]; rfl, h1, cur, fz, hg, hfz, hnc, hcm, hsz, htk⟩
theorem ints_row {w' : World} {γ' : Gh} {e g cap : Nat} {l : List Int} (h : IntsIn w' g e cap l) :
    RepS X γ' w' ⟨some g, .slice (some ⟨g, 0, none⟩) l.length cap, 1⟩ (.row 0 e 1 l.length (fl (fun n : Int => [PV.int .i64 n]) l)) := by
  obtain ⟨cur, fz, hg, hfz, hnc, hcm, hsz, htk⟩ := h
  refine ⟨l.map (Value.int .i64), rfl, rfl, rfl, ⟨by simp, .inr ⟨g, cap, cur, fz, rfl, hg, hfz, hnc, hcm, hsz, htk⟩⟩, fun u hu => ?_, fun i hi => rfl, fun i hi c hc => ?_, fun i j c u hi hc hu => ?_⟩
  · obtain ⟨n, _, rfl⟩ := List.mem_map.1 hu; rfl
  · have : c = .int .i64 (l.getD i default) := by simpa [fl] using hc
    subst this; rfl
  · have hj : j = 0 := by
      have := (List.getElem?_eq_some_iff.1 hc).1
      simp [fl] at this; omega
    subst hj
    have : c = .int .i64 (l.getD i default) := by
      have h0 : some (PV.int .i64 (l.getD i default)) = some c := hc
      injection h0 with h0; exact h0.symm
    subst this
    rw [Nat.mul_one, Nat.add_zero, List.getElem?_map, getD_some hi] at hu
    injection hu with hu; subst hu
    exact .int _ _

end

section
variable {P : Program} {wr : Bool} {np : Nat} {Q : Lv → PS → Prop}

theorem ents_put {X : Cx} {w0 w w' : World} {may : Nat → Prop} {a : Act} {s s' : PS} {γ γ' : Gh} {E : Eff} {v : Value} {d : Nat} (h : Rel X w0 may a w s γ) (hE : EffOK X γ w s.st E v w' γ' s'.st) (hn : s'.n = s.n) (hd : d < s.n)
    (hfr : s'.fr = upd (voidF E.kill s.fr) d E.val) : Rel X w0 may (a.put (some d) v) w' s' γ' := by
  refine h.after hE hn fun t p hp => ?_
  rw [hfr] at hp
  by_cases ht : t = d
  · subst ht
    rw [upd_same] at hp; injection hp with hp; subst hp
    exact .inl ⟨rfl, hd, hE.val⟩
  · rw [upd_ne _ _ ht] at hp
    simp only [voidF] at hp
    obtain ⟨q, hq, rfl⟩ := Option.map_eq_some_iff.1 hp
    exact .inr ⟨fun h => ht (by injection h with h; exact h.symm), q, hq, rfl⟩

/-- What such a call leaves. -/
def inplaceSt (n : Nat) (fr : Nat → Option PV) (st : Nat → Option SE) (log : Nat → Option LogE) (ta tb r e : Nat) (l' : List Int) (back : Bool) : PS :=
  match back with
  | false => ⟨n, upd (upd fr ta (.os r)) tb (.tup []), upd st r (.row 0 e 1 l'.length (fl (fun n : Int => [PV.int .i64 n]) l')), True, log⟩
  | true => ⟨n, upd (voidF [r] (upd fr ta (.os r))) tb (.os r), upd (voidS [r] st) r (.row 0 e 1 l'.length (fl (fun n : Int => [PV.int .i64 n]) l')), True, log⟩

theorem LSem.inplace {F : FuncId} {l l' : List Int} {back : Bool} (hF : InPlace P F l l' back) (hl : 0 < l.length) (hl' : back = false → l'.length = l.length)
    {n : Nat} {fr : Nat → Option PV} {st : Nat → Option SE} {log : Nat → Option LogE} {slot ta ia tb ib r τ e : Nat} {f : Nat → List PV} {rest : List Ins}
    (h1 : fr slot = some (.os r)) (h2 : st r = some (.row τ e 1 l.length f)) (h3 : RowEq l.length f (fl (fun n : Int => [PV.int .i64 n]) l)) (ha : Nat.blt ta n = true) (hb : Nat.blt tb n = true)
    (hK : evK (PureCall P) false 2 rest (inplaceSt n fr st log ta tb r e l' back) (fun s' => Q .nrm s')) :
    LSem P wr np (.reg (⟨some ta, ia, none, .mv (.t slot)⟩ :: ⟨some tb, ib, none, .call (.c (.fn (.func F) [] [])) [.t ta]⟩ :: rest)) Q ⟨n, fr, st, True, log⟩ := by
  intro hQ code hc X w0 may a w γ hX hR
  have hcode : ∃ id ops, code = .region id ops false ∧ mapO (compO P wr ops) ops.toList = some (⟨some ta, ia, none, .mv (.t slot)⟩ :: ⟨some tb, ib, none, .call (.c (.fn (.func F) [] [])) [.t ta]⟩ :: rest) := by
    cases code with
    | region id ops dr =>
      cases dr with
      | false =>
        simp only [comp, C.er] at hc
        split at hc
        · rename_i hm
          simp only [Option.some.injEq, C.reg.injEq] at hc
          subst hc
          exact ⟨id, ops, rfl, hm⟩
        · cases hc
      | true => simp only [comp, C.er] at hc; (repeat' (split at hc)) <;> cases hc
    | _ => simp only [comp, C.er] at hc <;> (repeat' (split at hc)) <;> simp_all
  obtain ⟨id, ops, rfl, hm⟩ := hcode
  obtain ⟨cr, s3, hev, hQ3⟩ := evK_evL hK
  have hok3 := hQ _ _ hQ3
  refine wp_region ?_
  have hlen : ops.size = 2 + rest.length := by have := mapO_length hm; simp at this; omega
  have hget : ∀ k o, ops[k]? = some o → ∃ x, (⟨some ta, ia, none, .mv (.t slot)⟩ :: ⟨some tb, ib, none, .call (.c (.fn (.func F) [] [])) [.t ta]⟩ :: rest : List Ins)[k]? = some x ∧ compO P wr ops o = some x := fun k o hk => comp_ins hm k o hk
  have o0 : ops[0]? = some (ops[0]'(by omega)) := Array.getElem?_eq_getElem (by omega)
  have o1 : ops[1]? = some (ops[1]'(by omega)) := Array.getElem?_eq_getElem (by omega)
  obtain ⟨x0, hx0, hc0⟩ := hget 0 _ o0
  obtain ⟨x1, hx1, hc1⟩ := hget 1 _ o1
  simp only [List.getElem?_cons_zero, Option.some.injEq] at hx0
  simp only [List.getElem?_cons_succ, List.getElem?_cons_zero, Option.some.injEq] at hx1
  subst hx0 hx1
  have hrange : List.range ops.size = 0 :: 1 :: (num 2 rest).map (·.1) := by
    rw [num_fst, hlen, List.range_eq_range', Nat.add_comm 2, List.range'_succ, List.range'_succ]
  rw [hrange, wpOps_cons]
  refine step_sound (lg := false) (c := default) (i := 0) (s' := ⟨n, upd fr ta (.os r), st, True, log⟩) o0 hR hc0 ?_ trivial fun a1 w1 γ1 hR1 => ?_
  · simp [stepI, guardV, I.opr, valL, A.val, h1, stripI, stripS, PV.isCnd, I.acc, getL, eff, eMv, PV.topV, Eff.pure, logO, logCs, okO, newSt, newFr, PV.norm, ha]
  rw [wpOps_cons]
  obtain ⟨hg1, hi1, hd1⟩ := compO_parts hc1
  unfold wpOp
  rw [o1]
  simp only
  rw [guard_none hg1 rfl, if_pos rfl]
  refine .inl ?_
  obtain ⟨hfn, hC⟩ := hF
  have hgr : ∃ ge, γ1 r = some ge := by
    have := hR1.st.dom r
    simp only [h2] at this
    exact Option.isSome_iff_exists.1 this
  obtain ⟨ge, hge⟩ := hgr
  obtain ⟨g, cap, hhdr, hblk, hz, hin⟩ := row_ints (hR1.st.at_ r ge _ hge h2) h3 hl
  have hnd : o1 = o1 := rfl
  refine call_wp (p := .os r) (R := fun u w' => u = (if back then .slice (some ⟨g, 0, none⟩) l'.length cap else .tuple #[]) ∧ Keeps (· = g) w1 w' ∧ IntsIn w' g e cap l') hR1 hi1 (by simp only [A.val]; exact upd_same _ _ _) hfn (fun v hv => ?_) (fun u w' hu => ?_)
  · obtain ⟨ge', hge', rfl⟩ := os_inv hv
    rw [hge] at hge'; injection hge' with hge'; subst hge'
    rw [hhdr]
    refine (hC w1 g cap e hin).mono ?_
    rintro ev w' ⟨he, hk, hi⟩
    exact ⟨_, he, rfl, hk, hi⟩
  · obtain ⟨rfl, hk, hi⟩ := hu
    have hdst : (ops[1]'(by omega)).dst = some tb := hd1.symm
    rw [hdst]
    have hRel : ∃ γ2, Rel X w0 may (a1.put (some tb) (if back then .slice (some ⟨g, 0, none⟩) l'.length cap else .tuple #[])) w' (inplaceSt n fr st log ta tb r e l' back) γ2 := by
      cases back with
      | false =>
        have hll := hl' rfl
        refine ⟨γ1, ents_put (E := ⟨.tup [], [], [], [], [], []⟩) hR1 ?_ rfl (by simpa [Nat.blt_eq] using hb) (by simp [inplaceSt, voidF_nil])⟩
        have h0 := EffOK.write (E := ⟨.junk, [], [], [], [], []⟩) (v := .tuple #[]) (e := .row 0 e 1 l'.length (fl (fun n : Int => [PV.int .i64 n]) l')) hR1.st hge hblk h2 rfl hk (fun _ => ?_) rfl (fun l hl => by cases hl)
        · exact ⟨.tup [] [] rfl (fun k c u hk => by simp at hk), h0.old, h0.sto, h0.keeps, h0.ownE, h0.box, h0.bld⟩
        · have := ints_row (X := X) (γ' := γ1) hi
          rw [hll] at this ⊢
          have hge2 : ge = ⟨some g, .slice (some ⟨g, 0, none⟩) l.length cap, 1⟩ := by cases ge; simp_all
          rw [hge2]; exact this
      | true =>
        refine ⟨upd γ1 r ⟨some g, .slice (some ⟨g, 0, none⟩) l'.length cap, 1⟩, ents_put (E := ⟨.os r, [], [], [], [r], []⟩) hR1 ?_ rfl (by simpa [Nat.blt_eq] using hb) (by simp [inplaceSt])⟩
        refine EffOK.app (ge' := ⟨some g, .slice (some ⟨g, 0, none⟩) l'.length cap, 1⟩) hR1.st hR1.hX hge h2 (fun l hl => by cases hl) rfl (hk.mono fun i _ h => by rw [hblk, h]) (fun b hb => .inl (by rw [hblk]; exact hb)) (fun b hb => ?_) (fun _ => ints_row hi) (.os r _ (upd_same _ _ _) rfl rfl)
        · injection hb with hb; subst hb
          obtain ⟨cur, _, hg, _⟩ := hi
          exact (Array.getElem?_eq_some_iff.1 hg).1
    obtain ⟨γ2, hR2⟩ := hRel
    exact reg_sound (l := num 2 rest) (fun p hp => by
      obtain ⟨hg0, hg⟩ := num_get rest 2 p hp
      have hlt := (List.getElem?_eq_some_iff.1 hg).1
      have ho : ops[p.1]? = some (ops[p.1]'(by omega)) := Array.getElem?_eq_getElem (by omega)
      obtain ⟨x, hx, hco⟩ := hget _ _ ho
      rw [show p.1 = (p.1 - 2) + 2 by omega] at hx
      simp only [List.getElem?_cons_succ] at hx
      rw [hx] at hg
      injection hg with hg; subst hg
      exact ⟨_, ho, hco⟩) hR2 hev hok3 (fun a' w' γ' hR' => ⟨_, _, _, rfl, hQ3, hR'⟩)
end
end Pv
end Go.Proofs.YtgbknfbcjddnhaaDoor
