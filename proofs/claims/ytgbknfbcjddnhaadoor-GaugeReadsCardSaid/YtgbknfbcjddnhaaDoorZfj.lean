/- LAW GaugeReads: the row and its card: the law returns true for every input, and the input reads as before; the listed tables read as the program's text lays them. -/
import Derived.Test.YtgbknfbcjddnhaaDoorZfh
import Derived.Lib.ItoaLen
import Derived.Test.YtgbknfbcjddnhaaDoorZfi
import Derived.Test.YtgbknfbcjddnhaaDoorZff
import Derived.ProofKit
import Derived.ChangeOld
import Derived.DataElems
import Derived.Below
import Derived.SizedLaws
import Derived.Test.YtgbknfbcjddnhaaDoorTie
import Derived.WalkKit
import Derived.OpenShut
import Derived.ShutString
import Derived.LaidMore
import Derived.Lay
import Derived.LaidSub
import Derived.SevenTiedAt
import Derived.Shelf.Vars
import Derived.MakeChecks
import Derived.Test.YtgbknfbcjddnhaaDoorCards
import Derived.ChangeMaps5
/- LAW 06: strconv.Itoa, as a pure call. -/
set_option linter.unusedSimpArgs false
set_option linter.unusedVariables false
namespace Go.Proofs.YtgbknfbcjddnhaaDoor
namespace Pv
open Go.RowKit

theorem keeps_grow (w : World) (k : Nat) (os : Array Obj) : Keeps (fun _ => False) w (Sort.grow (w.drewN k) os) :=
  ⟨rfl, rfl, rfl, by simp [Sort.grow], fun b hb _ => by simp [Sort.grow, Array.getElem?_append, hb]⟩
theorem keeps_drewN (w : World) (k : Nat) : Keeps (fun _ => False) w (w.drewN k) := ⟨rfl, rfl, rfl, Nat.le_refl _, fun b hb _ => rfl⟩
theorem pow_tab {w : World} (hg : ∀ b p, Pv.glob b = some p → ∃ o, w.heap[b]? = some o ∧ p o) : Lib.TabIs Tryd.prog w "internal/strconv.uint64pow10" .u64 Lib.pow10Tab := by
  obtain ⟨o, ho, T, fz, rfl⟩ := hg 1 isPow10 rfl
  unfold Lib.TabIs World.var?
  rw [show Tryd.prog.globalNamed "internal/strconv.uint64pow10" = some 1 from by kernel_rfl]
  simp [ho]
theorem call37 (n : Int) (h0 : -9223372036854775808 ≤ n) (h1 : n ≤ 9223372036854775807) : PureCall Tryd.prog 37 [.int .i64 n] [] ⟨.str (Lib.itoa n), [], []⟩ :=
  pure_still ⟨_, Tryd.func37, rfl, rfl⟩ (args_int .i64 n) (fun _ _ _ => .str _) fun w hg =>
    (Sh.strconv_Itoa n h0 h1 w (pow_tab hg)).mono fun ev w' ⟨he, k, os, hw⟩ => ⟨he, by rw [hw]; exact keeps_grow w k os⟩
end Pv
end Go.Proofs.YtgbknfbcjddnhaaDoor

/- (*strings.Builder).String OF A BUILDER THAT HOLDS NOTHING: the empty text. -/
set_option linter.unusedSimpArgs false
set_option linter.unusedVariables false
namespace Go.Proofs.YtgbknfbcjddnhaaDoor
namespace Pv
open Go.RowKit Go.Shelf
variable {P : Program} {ρ : Ren}

theorem Held.drew {T e : TypeId} {b : Nat} {p v : Value} {s : List UInt8} {w : World} (h : Held T e b p v s w) : Held T e b p v s w.drew := ⟨h.cells, h.own, h.ne⟩
theorem Held.alloc0 {T e : TypeId} {b : Nat} {p v : Value} {s : List UInt8} {w : World} (h : Held T e b p v s w) (o : Obj) : Held T e b p v s (w.alloc o) := by
  refine ⟨(Lib.alloc_old w o b h.lt).trans h.cells, ?_, h.ne⟩
  obtain ⟨hl, ho⟩ := h.own
  refine ⟨hl, ?_⟩
  rcases ho with ho | ⟨g, cap, cur, fz, hv, h0, hg, rest⟩
  · exact .inl ho
  · exact .inr ⟨g, cap, cur, fz, hv, h0, (Lib.alloc_old w o g (Array.getElem?_eq_some_iff.1 hg).1).trans hg, rest⟩

set_option maxHeartbeats 2000000 in
set_option maxRecDepth 100000 in
theorem held_nil (L : Lays.n169 P ρ) (X : Builder.Extra P ρ) {b : Nat} {p : Value} {w : World} (h : Held (ρ.t 72) (ρ.t 5) b p (.slice none 0 0) [] w) :
    Calls P (ρ.f 169) #[.pointer (some ⟨b, 0, none⟩)] w fun e w' => e = .returned (.string ⟨[].toArray⟩) ∧ Held (ρ.t 72) (ρ.t 5) b p (.slice none 0 0) [] w' ∧ Keeps (fun k => k = b ∨ (Value.slice none 0 0).ownBlock = some k) w w' := by
  have hUS := Any.unsafeString_none L X
  have c1 : w.drew.cell? ⟨b, 1, none⟩ = some (.slice none 0 0) := by
    have : w.drew.heap[b]? = some (.cells #[p, .slice none 0 0] (ρ.t 72) (0, 0)) := h.cells
    rw [Lib.cell_of_heap this]; rfl
  have hSD : (Builtin.unsafeSliceData_ #[(ρ.t 37)] (ρ.t 127) #[.slice none 0 0]).run P w.drew = .ok (.pointer none) w.drew := rfl
  have mixed := L.mixed
  have t72 := L.t72; have a72 := L.a72; have z72 := L.z72; have v72 := L.v72; have u72 := run_underlying L.t72
  have t70 := L.t70; have a70 := L.a70; have z70 := L.z70; have v70 := L.v70; have u70 := run_underlying L.t70
  have t37 := L.t37; have a37 := L.a37; have z37 := L.z37; have v37 := L.v37; have u37 := run_underlying L.t37
  have t127 := L.t127; have a127 := L.a127; have z127 := L.z127; have v127 := L.v127; have u127 := run_underlying L.t127
  have t3 := L.t3; have a3 := L.a3; have z3 := L.z3; have v3 := L.v3; have u3 := run_underlying L.t3
  have t9 := L.t9; have a9 := L.a9; have z9 := L.z9; have v9 := L.v9; have u9 := run_underlying L.t9
  have t5 := X.t5; have a5 := X.a5; have z5 := X.z5; have v5 := X.v5; have u5 := run_underlying X.t5
  go_enter L.f169, Body.n169_ntmps ρ
  go_wp2
  go_region_o
  all_goals (go_wp2; go_ret; exact ⟨rfl, h.drew, Keeps.drew _ w⟩)
set_option maxHeartbeats 2000000 in
set_option maxRecDepth 100000 in
theorem held_noroom (L : Lays.n169 P ρ) (X : Builder.Extra P ρ) {b g : Nat} {p : Value} {cur : Array Value} {fz : Nat × Nat} {w : World} (h : Held (ρ.t 72) (ρ.t 5) b p (.slice (some ⟨g, 0, none⟩) 0 0) [] w) (hg : w.heap[g]? = some (.cells cur (ρ.t 5) fz)) :
    Calls P (ρ.f 169) #[.pointer (some ⟨b, 0, none⟩)] w fun e w' => e = .returned (.string ⟨[].toArray⟩) ∧ Held (ρ.t 72) (ρ.t 5) b p (.slice (some ⟨g, 0, none⟩) 0 0) [] w' ∧ Keeps (fun k => k = b ∨ (Value.slice (some ⟨g, 0, none⟩) 0 0).ownBlock = some k) w w' := by
  have hUS := Any.unsafeString_none L X
  have hlt := h.lt
  have c1 : w.drew.cell? ⟨b, 1, none⟩ = some (.slice (some ⟨g, 0, none⟩) 0 0) := by
    have : w.drew.heap[b]? = some (.cells #[p, .slice (some ⟨g, 0, none⟩) 0 0] (ρ.t 72) (0, 0)) := h.cells
    rw [Lib.cell_of_heap this]; rfl
  have hSD : (Builtin.unsafeSliceData_ #[(ρ.t 37)] (ρ.t 127) #[.slice (some ⟨g, 0, none⟩) 0 0]).run P w.drew = .ok (.pointer (some ⟨w.drew.heap.size, 0, none⟩)) (w.drew.alloc (.view ⟨g, 0, none⟩ (ρ.t 5))) :=
    Lib.run_unsafeSliceData_zero w.drew _ _ (ρ.t 5) L.t127 ⟨g, 0, none⟩ 0 ((ρ.t 5), cur.size) (by have hg' : w.drew.heap[g]? = some (.cells cur (ρ.t 5) fz) := hg; simp [World.shape?, hg'])
  have c2 : (w.drew.alloc (.view ⟨g, 0, none⟩ (ρ.t 5))).cell? ⟨b, 1, none⟩ = some (.slice (some ⟨g, 0, none⟩) 0 0) := by
    have : (w.drew.alloc (.view ⟨g, 0, none⟩ (ρ.t 5))).heap[b]? = _ := (Lib.alloc_old w.drew _ b hlt).trans h.cells
    rw [Lib.cell_of_heap this]; rfl
  have c3 : (w.alloc (.view ⟨g, 0, none⟩ (ρ.t 5))).drew.cell? ⟨b, 1, none⟩ = some (.slice (some ⟨g, 0, none⟩) 0 0) := c2
  have c0 : w.cell? ⟨b, 1, none⟩ = some (.slice (some ⟨g, 0, none⟩) 0 0) := c1
  have mixed := L.mixed
  have t72 := L.t72; have a72 := L.a72; have z72 := L.z72; have v72 := L.v72; have u72 := run_underlying L.t72
  have t70 := L.t70; have a70 := L.a70; have z70 := L.z70; have v70 := L.v70; have u70 := run_underlying L.t70
  have t37 := L.t37; have a37 := L.a37; have z37 := L.z37; have v37 := L.v37; have u37 := run_underlying L.t37
  have t127 := L.t127; have a127 := L.a127; have z127 := L.z127; have v127 := L.v127; have u127 := run_underlying L.t127
  have t3 := L.t3; have a3 := L.a3; have z3 := L.z3; have v3 := L.v3; have u3 := run_underlying L.t3
  have t9 := L.t9; have a9 := L.a9; have z9 := L.z9; have v9 := L.v9; have u9 := run_underlying L.t9
  have t5 := X.t5; have a5 := X.a5; have z5 := X.z5; have v5 := X.v5; have u5 := run_underlying X.t5
  go_enter L.f169, Body.n169_ntmps ρ
  go_wp2
  go_region_o
  all_goals (go_wp2; go_ret; exact ⟨rfl, h.drew.alloc0 _, (Keeps.drew _ w).trans (Keeps.alloc _ w.drew _)⟩)
set_option maxHeartbeats 2000000 in
set_option maxRecDepth 100000 in
theorem held_room (L : Lays.n169 P ρ) (X : Builder.Extra P ρ) {b g cap : Nat} {p : Value} {w : World} (hc0 : cap ≠ 0) (h : Held (ρ.t 72) (ρ.t 5) b p (.slice (some ⟨g, 0, none⟩) 0 cap) [] w) :
    Calls P (ρ.f 169) #[.pointer (some ⟨b, 0, none⟩)] w fun e w' => e = .returned (.string ⟨[].toArray⟩) ∧ Held (ρ.t 72) (ρ.t 5) b p (.slice (some ⟨g, 0, none⟩) 0 cap) [] w' ∧ Keeps (fun k => k = b ∨ (Value.slice (some ⟨g, 0, none⟩) 0 cap).ownBlock = some k) w w' := by
  have hUS := Any.unsafeString_none L X
  have c1 : w.drew.cell? ⟨b, 1, none⟩ = some (.slice (some ⟨g, 0, none⟩) 0 cap) := by
    have : w.drew.heap[b]? = some (.cells #[p, .slice (some ⟨g, 0, none⟩) 0 cap] (ρ.t 72) (0, 0)) := h.cells
    rw [Lib.cell_of_heap this]; rfl
  have hSD : (Builtin.unsafeSliceData_ #[(ρ.t 37)] (ρ.t 127) #[.slice (some ⟨g, 0, none⟩) 0 cap]).run P w.drew = .ok (.pointer (some ⟨g, 0, none⟩)) w.drew :=
    Lib.run_unsafeSliceData_row _ _ _ _ _ _ hc0
  clear hc0
  have mixed := L.mixed
  have t72 := L.t72; have a72 := L.a72; have z72 := L.z72; have v72 := L.v72; have u72 := run_underlying L.t72
  have t70 := L.t70; have a70 := L.a70; have z70 := L.z70; have v70 := L.v70; have u70 := run_underlying L.t70
  have t37 := L.t37; have a37 := L.a37; have z37 := L.z37; have v37 := L.v37; have u37 := run_underlying L.t37
  have t127 := L.t127; have a127 := L.a127; have z127 := L.z127; have v127 := L.v127; have u127 := run_underlying L.t127
  have t3 := L.t3; have a3 := L.a3; have z3 := L.z3; have v3 := L.v3; have u3 := run_underlying L.t3
  have t9 := L.t9; have a9 := L.a9; have z9 := L.z9; have v9 := L.v9; have u9 := run_underlying L.t9
  have t5 := X.t5; have a5 := X.a5; have z5 := X.z5; have v5 := X.v5; have u5 := run_underlying X.t5
  go_enter L.f169, Body.n169_ntmps ρ
  go_wp2
  go_region_o
  all_goals (go_wp2; go_ret; exact ⟨rfl, h.drew, Keeps.drew _ w⟩)
theorem held_empty (L : Lays.n169 P ρ) (X : Builder.Extra P ρ) {b : Nat} {p v : Value} {w : World} (h : Held (ρ.t 72) (ρ.t 5) b p v [] w) :
    Calls P (ρ.f 169) #[.pointer (some ⟨b, 0, none⟩)] w fun e w' => e = .returned (.string ⟨[].toArray⟩) ∧ Held (ρ.t 72) (ρ.t 5) b p v [] w' ∧ Keeps (fun k => k = b ∨ v.ownBlock = some k) w w' := by
  rcases h.own.2 with ⟨rfl, _⟩ | ⟨g, cap, cur, fz, rfl, _, hg, _⟩
  · exact held_nil L X h
  · by_cases hc0 : cap = 0
    · subst hc0; exact held_noroom L X h hg
    · exact held_room L X hc0 h
end Pv
namespace Pv
theorem call46' (s : List UInt8) : PureCall Tryd.prog 46 [.pt 0 0 0] [.bld 77 5 s] ⟨.str s, [.bld 77 5 s], []⟩ := by
  cases s with
  | nil => exact pure_bld ⟨_, Tryd.func46, rfl, rfl⟩ args_nil (fun _ _ _ => .str []) fun w b p v hp hH =>
    (held_empty Sh.lays169 Sh.bX_169 hH).mono fun ev w' ⟨he, h1, h2⟩ => ⟨he, p, v, hp, h1, h2, fun g hg => .inl hg⟩
  | cons x r => exact call46 (x :: r) (by simp)
end Pv
end Go.Proofs.YtgbknfbcjddnhaaDoor

/- LAW 06, THE WALKS: readings as text. -/
set_option linter.unusedSimpArgs false
set_option linter.unusedVariables false
namespace Go.Proofs.YtgbknfbcjddnhaaDoor
namespace Pv
def c25L2 : C := (.seq (.reg [⟨(some 29), 464, none, .bi false .lss (.t 28) (.c (.int .i64 3))⟩])
  (.seq (.cond (.t 29) .skip (.exit 2))
  (.seq (.block 3 (.seq (.reg [⟨(some 30), 480, none, .ixa 3 1 false (.t 27) (.t 28)⟩,
    ⟨(some 9), 144, none, .mv (.t 30)⟩])
  (.reg [⟨(some 31), 496, none, .mv (.t 9)⟩,
    ⟨(some 32), 512, none, .call (.c (.fn (.func 37) [] [])) [(.t 31)]⟩,
    ⟨(some 33), 528, none, .bi false .add (.t 32) (.c (.str [32]))⟩,
    ⟨(some 34), 544, none, .call (.c (.fn (.func 45) [] [])) [(.t 5), (.t 33)]⟩])))
  (.reg [⟨(some 35), 560, none, .bi false .add (.t 28) (.c (.int .i64 1))⟩,
    ⟨(some 28), 448, none, .mv (.t 35)⟩]))))
def c25L1 : C := (.seq (.reg [⟨(some 18), 288, none, .bi false .lss (.t 17) (.t 16)⟩])
  (.seq (.cond (.t 18) .skip (.exit 0))
  (.seq (.block 1 (.seq (.reg [⟨(some 19), 304, none, .ia 4 (.t 15) (.t 17)⟩,
    ⟨(some 20), 320, none, .ld 4 true (.t 19)⟩,
    ⟨(some 7), 112, none, .al [(.int .i64 0), (.int .i64 0), (.int .i64 0), (.int .i64 0)]⟩,
    ⟨none, 0, none, .st 4 (.t 7) (.t 20)⟩])
  (.seq (.seq (.reg [⟨(some 21), 336, none, .fa 0 (.t 7)⟩,
    ⟨(some 22), 352, none, .ld 1 false (.t 21)⟩,
    ⟨(some 23), 368, none, .fa 1 (.t 7)⟩,
    ⟨(some 24), 384, none, .ld 1 false (.t 23)⟩,
    ⟨(some 25), 400, none, .fa 2 (.t 7)⟩,
    ⟨(some 26), 416, none, .ld 1 false (.t 25)⟩,
    ⟨(some 27), 432, none, .bd [(.int .i64 0), (.int .i64 0), (.int .i64 0)] [(0, 1, (.t 22)), (1, 1, (.t 24)), (2, 1, (.t 26))]⟩,
    ⟨(some 28), 448, none, .mv (.c (.int .i64 0))⟩])
  (.block 2 (.loop c25L2)))
  (.reg [⟨(some 36), 576, none, .fa 3 (.t 7)⟩,
    ⟨(some 37), 592, none, .ld 1 false (.t 36)⟩,
    ⟨(some 38), 608, none, .iaa 3 1 (.c (.rp 1 [(.str [111, 107]), (.str [105, 99, 101]), (.str [102, 97, 117, 108, 116])])) (.t 37)⟩,
    ⟨(some 39), 624, none, .ld 1 false (.t 38)⟩,
    ⟨(some 40), 640, none, .bi false .add (.t 39) (.c (.str [10]))⟩,
    ⟨(some 41), 656, none, .call (.c (.fn (.func 45) [] [])) [(.t 5), (.t 40)]⟩]))))
  (.reg [⟨(some 42), 672, none, .bi false .add (.t 17) (.c (.int .i64 1))⟩,
    ⟨(some 17), 272, none, .mv (.t 42)⟩]))))
def c25 : C := (.seq (.reg [⟨(some 2), 32, none, .mv (.c (.str []))⟩,
    ⟨(some 3), 48, none, .mv (.c (.int .i64 0))⟩])
  (.seq (.seq (.reg [⟨(some 10), 160, none, .mv (.t 0)⟩,
    ⟨(some 11), 176, none, .call (.c (.fn (.func 34) [] [])) [(.t 10)]⟩,
    ⟨(some 4), 64, none, .mv (.t 11)⟩])
  (.seq (.reg [⟨(some 12), 192, none, .mv (.t 4)⟩,
    ⟨(some 13), 208, none, .bi false .neq (.t 12) (.c (.int .i64 0))⟩])
  (.cond (.t 13) (.seq (.reg [⟨(some 14), 224, none, .mv (.t 4)⟩,
    ⟨(some 2), 32, none, .mv (.c (.str []))⟩,
    ⟨(some 3), 48, none, .mv (.t 14)⟩])
  .ret) .skip)))
  (.seq (.reg [⟨(some 5), 80, none, .alb 77 5⟩])
  (.seq (.seq (.reg [⟨(some 15), 240, none, .mv (.t 0)⟩,
    ⟨(some 16), 256, none, .len (.t 15)⟩,
    ⟨(some 17), 272, none, .mv (.c (.int .i64 0))⟩])
  (.block 0 (.loop c25L1)))
  (.seq (.reg [⟨(some 43), 688, none, .call (.c (.fn (.func 46) [] [])) [(.t 5)]⟩,
    ⟨(some 2), 32, none, .mv (.t 43)⟩,
    ⟨(some 3), 48, none, .mv (.c (.int .i64 0))⟩])
  .ret)))))
theorem fits25 : fits Tryd.prog false Tryd.f25 1 44 [(2, none), (3, none)] = some c25.er := by kernel_rfl
def c20L1 : C := (.seq (.reg [⟨(some 19), 304, none, .bi false .lss (.t 18) (.t 17)⟩])
  (.seq (.cond (.t 19) .skip (.exit 0))
  (.seq (.block 1 (.seq (.reg [⟨(some 20), 320, none, .ia 4 (.t 16) (.t 18)⟩,
    ⟨(some 21), 336, none, .ld 4 true (.t 20)⟩,
    ⟨(some 7), 112, none, .al [(.int .i64 0), (.int .i64 0), (.int .i64 0), (.int .i64 0)]⟩,
    ⟨none, 0, none, .st 4 (.t 7) (.t 21)⟩])
  (.drw [⟨(some 22), 352, none, .mv (.t 5)⟩,
    ⟨(some 23), 368, none, .fa 0 (.t 7)⟩,
    ⟨(some 24), 384, none, .ld 1 false (.t 23)⟩,
    ⟨(some 25), 400, none, .call (.c (.fn (.func 37) [] [])) [(.t 24)]⟩,
    ⟨(some 26), 416, none, .bi false .add (.t 25) (.c (.str [32]))⟩,
    ⟨(some 27), 432, none, .fa 1 (.t 7)⟩,
    ⟨(some 28), 448, none, .ld 1 false (.t 27)⟩,
    ⟨(some 29), 464, none, .call (.c (.fn (.func 37) [] [])) [(.t 28)]⟩,
    ⟨(some 30), 480, none, .bi false .add (.t 26) (.t 29)⟩,
    ⟨(some 31), 496, none, .bi false .add (.t 30) (.c (.str [32]))⟩,
    ⟨(some 32), 512, none, .fa 2 (.t 7)⟩,
    ⟨(some 33), 528, none, .ld 1 false (.t 32)⟩,
    ⟨(some 34), 544, none, .call (.c (.fn (.func 37) [] [])) [(.t 33)]⟩,
    ⟨(some 35), 560, none, .bi false .add (.t 31) (.t 34)⟩,
    ⟨(some 36), 576, none, .bi false .add (.t 35) (.c (.str [32]))⟩,
    ⟨(some 37), 592, none, .call (.c (.fn (.func 38) [] [])) []⟩,
    ⟨(some 38), 608, none, .fa 3 (.t 7)⟩,
    ⟨(some 39), 624, none, .ld 1 false (.t 38)⟩,
    ⟨(some 40), 640, none, .ia 1 (.t 37) (.t 39)⟩,
    ⟨(some 41), 656, none, .ld 1 false (.t 40)⟩,
    ⟨(some 42), 672, none, .bi false .add (.t 36) (.t 41)⟩,
    ⟨(some 43), 688, none, .bi false .add (.t 42) (.c (.str [10]))⟩,
    ⟨(some 44), 704, none, .bi false .add (.t 22) (.t 43)⟩,
    ⟨(some 5), 80, none, .mv (.t 44)⟩]
    [(0, 1, 22), (0, 2, 22), (0, 3, 22), (0, 4, 22), (0, 5, 22), (0, 6, 22), (0, 7, 22), (0, 8, 22), (0, 9, 22), (0, 10, 22), (0, 11, 22), (0, 12, 22), (0, 13, 22), (0, 14, 22), (0, 15, 22), (0, 16, 22), (0, 17, 22), (0, 18, 22), (0, 19, 22), (0, 20, 22), (0, 21, 22), (1, 5, 23), (1, 6, 23), (1, 10, 23), (1, 11, 23), (1, 16, 23), (1, 17, 23), (2, 5, 24), (2, 6, 24), (2, 10, 24), (2, 11, 24), (2, 16, 24), (2, 17, 24), (3, 5, 25), (3, 6, 25), (3, 10, 25), (3, 11, 25), (3, 16, 25), (3, 17, 25), (4, 5, 26), (4, 6, 26), (4, 7, 26), (4, 10, 26), (4, 11, 26), (4, 12, 26), (4, 15, 26), (4, 16, 26), (4, 17, 26), (4, 18, 26), (4, 19, 26), (5, 10, 27), (5, 11, 27), (5, 16, 27), (5, 17, 27), (6, 10, 28), (6, 11, 28), (6, 16, 28), (6, 17, 28), (7, 10, 29), (7, 11, 29), (7, 16, 29), (7, 17, 29), (8, 10, 30), (8, 11, 30), (8, 12, 30), (8, 15, 30), (8, 16, 30), (8, 17, 30), (8, 18, 30), (8, 19, 30), (9, 10, 31), (9, 11, 31), (9, 12, 31), (9, 15, 31), (9, 16, 31), (9, 17, 31), (9, 18, 31), (9, 19, 31), (10, 16, 32), (10, 17, 32), (11, 16, 33), (11, 17, 33), (12, 16, 34), (12, 17, 34), (13, 15, 35), (13, 16, 35), (13, 17, 35), (13, 18, 35), (13, 19, 35), (14, 15, 36), (14, 16, 36), (14, 17, 36), (14, 18, 36), (14, 19, 36), (15, 16, 37), (15, 17, 37)])))
  (.reg [⟨(some 45), 720, none, .bi false .add (.t 18) (.c (.int .i64 1))⟩,
    ⟨(some 18), 288, none, .mv (.t 45)⟩]))))
def c20 : C := (.seq (.reg [⟨(some 2), 32, none, .mv (.c (.str []))⟩,
    ⟨(some 3), 48, none, .mv (.c (.int .i64 0))⟩])
  (.seq (.seq (.reg [⟨(some 8), 128, none, .mv (.t 0)⟩,
    ⟨(some 9), 144, none, .len (.t 8)⟩,
    ⟨(some 10), 160, none, .bi false .gtr (.t 9) (.c (.int .i64 4096))⟩])
  (.cond (.t 10) (.seq (.reg [⟨(some 2), 32, none, .mv (.c (.str []))⟩,
    ⟨(some 3), 48, none, .mv (.c (.int .i64 10))⟩])
  .ret) .skip))
  (.seq (.seq (.reg [⟨(some 11), 176, none, .mv (.t 0)⟩,
    ⟨(some 12), 192, none, .call (.c (.fn (.func 33) [] [])) [(.t 11)]⟩,
    ⟨(some 4), 64, none, .mv (.t 12)⟩])
  (.seq (.reg [⟨(some 13), 208, none, .mv (.t 4)⟩,
    ⟨(some 14), 224, none, .bi false .neq (.t 13) (.c (.int .i64 0))⟩])
  (.cond (.t 14) (.seq (.reg [⟨(some 15), 240, none, .mv (.t 4)⟩,
    ⟨(some 2), 32, none, .mv (.c (.str []))⟩,
    ⟨(some 3), 48, none, .mv (.t 15)⟩])
  .ret) .skip)))
  (.seq (.reg [⟨(some 5), 80, none, .mv (.c (.str []))⟩])
  (.seq (.seq (.reg [⟨(some 16), 256, none, .mv (.t 0)⟩,
    ⟨(some 17), 272, none, .len (.t 16)⟩,
    ⟨(some 18), 288, none, .mv (.c (.int .i64 0))⟩])
  (.block 0 (.loop c20L1)))
  (.seq (.reg [⟨(some 46), 736, none, .mv (.t 5)⟩,
    ⟨(some 2), 32, none, .mv (.t 46)⟩,
    ⟨(some 3), 48, none, .mv (.c (.int .i64 0))⟩])
  .ret))))))
theorem fits20 : fits Tryd.prog false Tryd.f20 1 47 [(2, none), (3, none)] = some c20.er := by kernel_rfl

def wordT (f : Int) : List UInt8 := flagWords.getD f.toNat default
/-- A line; its first numbers. -/
def tJ (r : Rd) : Nat → List UInt8
  | 0 => []
  | 1 => Lib.itoa r.g ++ [32]
  | 2 => (Lib.itoa r.g ++ [32]) ++ (Lib.itoa r.t ++ [32])
  | _ => ((Lib.itoa r.g ++ [32]) ++ (Lib.itoa r.t ++ [32])) ++ (Lib.itoa r.v ++ [32])
def lineT (r : Rd) : List UInt8 := tJ r 3 ++ (wordT r.f ++ [10])
def printL (l : List Rd) : List UInt8 := l.flatMap lineT
theorem wordT_len {f : Int} : (wordT f).length ≤ 5 := by
  unfold wordT flagWords
  match f.toNat with
  | 0 => decide
  | 1 => decide
  | 2 => decide
  | n + 3 => simp only [List.getD, List.length_cons, List.length_nil]; exact Nat.zero_le _
theorem lineT_len {r : Rd} (h : RdV r) : (lineT r).length ≤ 100 ∧ ∀ j, (tJ r j).length ≤ 80 := by
  obtain ⟨h1, h2, h3, h4⟩ := h
  have a1 := Lib.itoa_length_le r.g (by omega) (by omega)
  have a2 := Lib.itoa_length_le r.t (by omega) (by omega)
  have a3 := Lib.itoa_length_le r.v (by omega) (by omega)
  have a4 := wordT_len (f := r.f)
  have hj : ∀ j, (tJ r j).length ≤ 80 := fun j => by
    match j with
    | 0 => simp [tJ]
    | 1 => simp only [tJ, List.length_append, List.length_cons, List.length_nil]; omega
    | 2 => simp only [tJ, List.length_append, List.length_cons, List.length_nil]; omega
    | n + 3 => simp only [tJ, List.length_append, List.length_cons, List.length_nil]; omega
  refine ⟨?_, hj⟩
  have := hj 3
  simp only [lineT, List.length_append, List.length_cons, List.length_nil]
  omega
theorem printL_take {l : List Rd} {i : Nat} (h : i < l.length) : printL (l.take (i + 1)) = printL (l.take i) ++ lineT (l.getD i default) := by
  rw [take_push h]; simp [printL]
theorem printL_len {l : List Rd} (hV : ∀ i, i < l.length → RdV (l.getD i default)) : ∀ i, i ≤ l.length → (printL (l.take i)).length ≤ 100 * i
  | 0, _ => by simp [printL]
  | i + 1, hi => by
    have ih := printL_len hV i (by omega)
    have h1 := (lineT_len (hV i hi)).1
    rw [printL_take hi, List.length_append]
    omega

set_option maxRecDepth 100000 in
theorem call25_bad (τ : Nat) (l : List Rd) (hl : l.length ≤ 4611686018427387904) (hb : limR l ≠ 0) : PureCall Tryd.prog 25 [.sl τ 4 l.length (fl eRd l)] [] ⟨.tup [.str [], .int .i64 (limR l)], [], []⟩ := by
  refine pure_call mix Tryd.func25 fits25 rfl ?_
  conv => whnf
  refine ⟨_, fun _ => call34 _ l hl, ?_⟩
  conv => whnf
  refine ⟨?_, fun hc => ?_, fun hc => ?_⟩
  · (try conv => whnf)
    (repeat' (first | exact True.intro | exact fun _ h => h | refine inR64_of ?_ ?_ | apply And.intro | refine maxLen_ge ?_)) <;> (first | omega | decide | (dsimp only; omega) | (dsimp only [List.length_cons, List.length_nil]; omega) | (intro hg; rw [hg]; rfl) | (intro hg hh; rw [hg, hh]; rfl) | (intro hg; simp [-List.getD_eq_getElem?_getD, -Int.default_eq_zero] at hg; first | omega | (refine inR64_of ?_ ?_ <;> omega) | (constructor <;> omega)) | (simp [-List.getD_eq_getElem?_getD, -Int.default_eq_zero]; done))
  · conv => whnf
    refine ⟨?_, [], ?_⟩
    · (try conv => whnf)
      (repeat' (first | exact True.intro | exact fun _ h => h | refine inR64_of ?_ ?_ | apply And.intro | refine maxLen_ge ?_)) <;> (first | omega | decide | (dsimp only; omega) | (dsimp only [List.length_cons, List.length_nil]; omega) | (intro hg; rw [hg]; rfl) | (intro hg hh; rw [hg, hh]; rfl) | (intro hg; simp [-List.getD_eq_getElem?_getD, -Int.default_eq_zero] at hg; first | omega | (refine inR64_of ?_ ?_ <;> omega) | (constructor <;> omega)) | (simp [-List.getD_eq_getElem?_getD, -Int.default_eq_zero]; done))
    conv => whnf
    refine ⟨rfl, ?_, trivial, trivial⟩
    all_goals repeat' (first | exact True.intro | refine leF_cons rfl ?_ ?_ | refine leS_cons rfl ?_ ?_ | (show PLe _ _ _ _; conv => whnf) | (show SLe _ _ _ _; conv => whnf) | (show PLeL _ _ _ _; conv => whnf) | apply And.intro | rfl | exact Nat.le_refl _ | exact fun _ _ => rfl | exact rowEq0 _ _)
  · exact absurd (by simpa using hc) hb
set_option maxRecDepth 100000 in
set_option maxHeartbeats 4000000 in
theorem call25 (τ : Nat) (l : List Rd) (hl : l.length ≤ 4611686018427387904) (hb : limR l = 0) : PureCall Tryd.prog 25 [.sl τ 4 l.length (fl eRd l)] [] ⟨.tup [.str (printL l), .int .i64 0], [], []⟩ := by
  obtain ⟨hl2, hV⟩ := lim_ok hb
  refine pure_call mix Tryd.func25 fits25 rfl ?_
  conv => whnf
  refine ⟨_, fun _ => call34 _ l hl, ?_⟩
  conv => whnf
  refine ⟨?_, fun hc => ?_, fun hc => ?_⟩
  · (try conv => whnf)
    (repeat' (first | exact True.intro | exact fun _ h => h | refine inR64_of ?_ ?_ | apply And.intro | refine maxLen_ge ?_)) <;> (first | omega | decide | (dsimp only; omega) | (dsimp only [List.length_cons, List.length_nil]; omega) | (intro hg; rw [hg]; rfl) | (intro hg hh; rw [hg, hh]; rfl) | (intro hg; simp [-List.getD_eq_getElem?_getD, -Int.default_eq_zero] at hg; first | omega | (refine inR64_of ?_ ?_ <;> omega) | (constructor <;> omega)) | (simp [-List.getD_eq_getElem?_getD, -Int.default_eq_zero]; done))
  · rw [hb] at hc; cases hc
  conv => whnf
  refine ⟨trivial, ?_⟩
  refine LSem.loop (n := 44) mix (α := Nat) (fun i => i ≤ l.length)
    (fun i => [(5, .pt 80 0 0), (15, .sl τ 4 l.length (fl eRd l)), (16, .int .i64 l.length), (17, .int .i64 i)])
    (fun i => [(80, .bld 77 5 (printL (l.take i)))]) (fun i => l.length - i) 0 ?_ ?_ ?_
  · exact Nat.zero_le _
  · refine ⟨rfl, rfl, ?_, ?_⟩
    all_goals repeat' (first | exact True.intro | refine leF_cons rfl ?_ ?_ | refine leS_cons rfl ?_ ?_ | (show PLe _ _ _ _; conv => whnf) | (show SLe _ _ _ _; conv => whnf) | (show PLeL _ _ _ _; conv => whnf) | apply And.intro | rfl | exact Nat.le_refl _ | exact fun _ _ => rfl | exact rowEq0 _ _)
    all_goals skip
  · intro i hi
    have hj : ((i : Int)).toNat = i := by omega
    conv => whnf
    refine ⟨trivial, fun hc => ?_, fun hc => ?_⟩
    · replace hc := of_decide_eq_true hc
      have hlt : i < l.length := by
        have h : (i : Int) < l.length := hc
        omega
      have hpl := printL_len hV i hi
      have hpt := printL_take hlt
      have hr := hV i hlt
      have hll := lineT_len hr
      conv => whnf
      rw [hj]
      generalize l.getD i default = r at hpt hr hll ⊢
      refine ⟨?_, ?_⟩
      · (try conv => whnf)
        (repeat' (first | exact True.intro | exact fun _ h => h | refine inR64_of ?_ ?_ | apply And.intro | refine maxLen_ge ?_)) <;> (first | omega | decide | (dsimp only; omega) | (dsimp only [List.length_cons, List.length_nil]; omega) | (intro hg; rw [hg]; rfl) | (intro hg hh; rw [hg, hh]; rfl) | (intro hg; simp [-List.getD_eq_getElem?_getD, -Int.default_eq_zero] at hg; first | omega | (refine inR64_of ?_ ?_ <;> omega) | (constructor <;> omega)) | (simp [-List.getD_eq_getElem?_getD, -Int.default_eq_zero]; done))
      refine LSem.loop (n := 44) mix (α := Nat) (fun j => j ≤ 3)
        (fun j => [(5, .pt 80 0 0), (15, .sl τ 4 l.length (fl eRd l)), (16, .int .i64 l.length), (17, .int .i64 i), (7, .pt 112 0 0), (27, .agg [.int .i64 r.g, .int .i64 r.t, .int .i64 r.v]), (28, .int .i64 j)])
        (fun j => [(80, .bld 77 5 (printL (l.take i) ++ tJ r j)), (112, .box (eRd r))]) (fun j => 3 - j) 0 ?_ ?_ ?_
      · exact Nat.zero_le _
      · refine ⟨rfl, rfl, ?_, ?_⟩
        all_goals repeat' (first | exact True.intro | refine leF_cons rfl ?_ ?_ | refine leS_cons rfl ?_ ?_ | (show PLe _ _ _ _; conv => whnf) | (show SLe _ _ _ _; conv => whnf) | (show PLeL _ _ _ _; conv => whnf) | apply And.intro | rfl | exact Nat.le_refl _ | exact fun _ _ => rfl | exact rowEq0 _ _)
        all_goals first | (show _ = _ ++ []; rw [List.append_nil]; done) | skip
      · intro j hj3
        obtain ⟨h1, h2, h3, h4⟩ := hr
        have hlj := hll.2 j
        have h0123 : j = 0 ∨ j = 1 ∨ j = 2 ∨ j = 3 := by omega
        rcases h0123 with rfl | rfl | rfl | rfl
        · conv => whnf
          refine ⟨trivial, fun hc => ?_, fun hc => (by cases hc)⟩
          have hx := Lib.itoa_length_le r.g (by omega) (by omega)
          conv => whnf
          refine ⟨_, fun _ => call37 r.g (by omega) (by omega), ?_⟩
          conv => whnf
          refine ⟨_, fun _ => call45 (printL (l.take i) ++ tJ r 0) (Lib.itoa r.g ++ [32]) (by simp only [List.length_append, List.length_cons, List.length_nil] at hlj ⊢; omega), ?_⟩
          conv => whnf
          refine ⟨?_, 1, ?_, ?_, rfl, rfl, ?_, ?_⟩
          · (try conv => whnf)
            (repeat' (first | exact True.intro | exact fun _ h => h | refine inR64_of ?_ ?_ | apply And.intro | refine maxLen_ge ?_)) <;> (first | omega | decide | (dsimp only; omega) | (dsimp only [List.length_cons, List.length_nil]; omega) | (intro hg; rw [hg]; rfl) | (intro hg hh; rw [hg, hh]; rfl) | (intro hg; simp [-List.getD_eq_getElem?_getD, -Int.default_eq_zero] at hg; first | omega | (refine inR64_of ?_ ?_ <;> omega) | (constructor <;> omega)) | (simp [-List.getD_eq_getElem?_getD, -Int.default_eq_zero]; done))
          · omega
          · omega
          all_goals repeat' (first | exact True.intro | refine leF_cons rfl ?_ ?_ | refine leS_cons rfl ?_ ?_ | (show PLe _ _ _ _; conv => whnf) | (show SLe _ _ _ _; conv => whnf) | (show PLeL _ _ _ _; conv => whnf) | apply And.intro | rfl | exact Nat.le_refl _ | exact fun _ _ => rfl | exact rowEq0 _ _)
          all_goals first | (rw [List.append_assoc]; rfl) | skip
        · conv => whnf
          refine ⟨trivial, fun hc => ?_, fun hc => (by cases hc)⟩
          have hx := Lib.itoa_length_le r.t (by omega) (by omega)
          conv => whnf
          refine ⟨_, fun _ => call37 r.t (by omega) (by omega), ?_⟩
          conv => whnf
          refine ⟨_, fun _ => call45 (printL (l.take i) ++ tJ r 1) (Lib.itoa r.t ++ [32]) (by simp only [List.length_append, List.length_cons, List.length_nil] at hlj ⊢; omega), ?_⟩
          conv => whnf
          refine ⟨?_, 2, ?_, ?_, rfl, rfl, ?_, ?_⟩
          · (try conv => whnf)
            (repeat' (first | exact True.intro | exact fun _ h => h | refine inR64_of ?_ ?_ | apply And.intro | refine maxLen_ge ?_)) <;> (first | omega | decide | (dsimp only; omega) | (dsimp only [List.length_cons, List.length_nil]; omega) | (intro hg; rw [hg]; rfl) | (intro hg hh; rw [hg, hh]; rfl) | (intro hg; simp [-List.getD_eq_getElem?_getD, -Int.default_eq_zero] at hg; first | omega | (refine inR64_of ?_ ?_ <;> omega) | (constructor <;> omega)) | (simp [-List.getD_eq_getElem?_getD, -Int.default_eq_zero]; done))
          · omega
          · omega
          all_goals repeat' (first | exact True.intro | refine leF_cons rfl ?_ ?_ | refine leS_cons rfl ?_ ?_ | (show PLe _ _ _ _; conv => whnf) | (show SLe _ _ _ _; conv => whnf) | (show PLeL _ _ _ _; conv => whnf) | apply And.intro | rfl | exact Nat.le_refl _ | exact fun _ _ => rfl | exact rowEq0 _ _)
          all_goals first | (rw [List.append_assoc]; rfl) | skip
        · conv => whnf
          refine ⟨trivial, fun hc => ?_, fun hc => (by cases hc)⟩
          have hx := Lib.itoa_length_le r.v (by omega) (by omega)
          conv => whnf
          refine ⟨_, fun _ => call37 r.v (by omega) (by omega), ?_⟩
          conv => whnf
          refine ⟨_, fun _ => call45 (printL (l.take i) ++ tJ r 2) (Lib.itoa r.v ++ [32]) (by simp only [List.length_append, List.length_cons, List.length_nil] at hlj ⊢; omega), ?_⟩
          conv => whnf
          refine ⟨?_, 3, ?_, ?_, rfl, rfl, ?_, ?_⟩
          · (try conv => whnf)
            (repeat' (first | exact True.intro | exact fun _ h => h | refine inR64_of ?_ ?_ | apply And.intro | refine maxLen_ge ?_)) <;> (first | omega | decide | (dsimp only; omega) | (dsimp only [List.length_cons, List.length_nil]; omega) | (intro hg; rw [hg]; rfl) | (intro hg hh; rw [hg, hh]; rfl) | (intro hg; simp [-List.getD_eq_getElem?_getD, -Int.default_eq_zero] at hg; first | omega | (refine inR64_of ?_ ?_ <;> omega) | (constructor <;> omega)) | (simp [-List.getD_eq_getElem?_getD, -Int.default_eq_zero]; done))
          · omega
          · omega
          all_goals repeat' (first | exact True.intro | refine leF_cons rfl ?_ ?_ | refine leS_cons rfl ?_ ?_ | (show PLe _ _ _ _; conv => whnf) | (show SLe _ _ _ _; conv => whnf) | (show PLeL _ _ _ _; conv => whnf) | apply And.intro | rfl | exact Nat.le_refl _ | exact fun _ _ => rfl | exact rowEq0 _ _)
          all_goals first | (rw [List.append_assoc]; rfl) | skip
        · conv => whnf
          refine ⟨trivial, fun hc => (by cases hc), fun hc => ?_⟩
          obtain ⟨g, t, v, f⟩ := r
          have hf : f = 0 ∨ f = 1 ∨ f = 2 := by dsimp only at h4; omega
          rcases hf with rfl | rfl | rfl
          · conv => whnf
            refine ⟨_, fun _ => call45 (printL (l.take i) ++ tJ ⟨g, t, v, 0⟩ 3) ([111, 107] ++ [10]) (by simp only [List.length_append, List.length_cons, List.length_nil] at hlj ⊢; omega), ?_⟩
            conv => whnf
            refine ⟨?_, i + 1, hlt, ?_, rfl, rfl, ?_, ?_⟩
            · (try conv => whnf)
              (repeat' (first | exact True.intro | exact fun _ h => h | refine inR64_of ?_ ?_ | apply And.intro | refine maxLen_ge ?_)) <;> (first | omega | decide | (dsimp only; omega) | (dsimp only [List.length_cons, List.length_nil]; omega) | (intro hg; rw [hg]; rfl) | (intro hg hh; rw [hg, hh]; rfl) | (intro hg; simp [-List.getD_eq_getElem?_getD, -Int.default_eq_zero] at hg; first | omega | (refine inR64_of ?_ ?_ <;> omega) | (constructor <;> omega)) | (simp [-List.getD_eq_getElem?_getD, -Int.default_eq_zero]; done))
            · omega
            all_goals repeat' (first | exact True.intro | refine leF_cons rfl ?_ ?_ | refine leS_cons rfl ?_ ?_ | (show PLe _ _ _ _; conv => whnf) | (show SLe _ _ _ _; conv => whnf) | (show PLeL _ _ _ _; conv => whnf) | apply And.intro | rfl | exact Nat.le_refl _ | exact fun _ _ => rfl | exact rowEq0 _ _)
            all_goals first | (rw [hpt, List.append_assoc]; rfl) | skip
          · conv => whnf
            refine ⟨_, fun _ => call45 (printL (l.take i) ++ tJ ⟨g, t, v, 1⟩ 3) ([105, 99, 101] ++ [10]) (by simp only [List.length_append, List.length_cons, List.length_nil] at hlj ⊢; omega), ?_⟩
            conv => whnf
            refine ⟨?_, i + 1, hlt, ?_, rfl, rfl, ?_, ?_⟩
            · (try conv => whnf)
              (repeat' (first | exact True.intro | exact fun _ h => h | refine inR64_of ?_ ?_ | apply And.intro | refine maxLen_ge ?_)) <;> (first | omega | decide | (dsimp only; omega) | (dsimp only [List.length_cons, List.length_nil]; omega) | (intro hg; rw [hg]; rfl) | (intro hg hh; rw [hg, hh]; rfl) | (intro hg; simp [-List.getD_eq_getElem?_getD, -Int.default_eq_zero] at hg; first | omega | (refine inR64_of ?_ ?_ <;> omega) | (constructor <;> omega)) | (simp [-List.getD_eq_getElem?_getD, -Int.default_eq_zero]; done))
            · omega
            all_goals repeat' (first | exact True.intro | refine leF_cons rfl ?_ ?_ | refine leS_cons rfl ?_ ?_ | (show PLe _ _ _ _; conv => whnf) | (show SLe _ _ _ _; conv => whnf) | (show PLeL _ _ _ _; conv => whnf) | apply And.intro | rfl | exact Nat.le_refl _ | exact fun _ _ => rfl | exact rowEq0 _ _)
            all_goals first | (rw [hpt, List.append_assoc]; rfl) | skip
          · conv => whnf
            refine ⟨_, fun _ => call45 (printL (l.take i) ++ tJ ⟨g, t, v, 2⟩ 3) ([102, 97, 117, 108, 116] ++ [10]) (by simp only [List.length_append, List.length_cons, List.length_nil] at hlj ⊢; omega), ?_⟩
            conv => whnf
            refine ⟨?_, i + 1, hlt, ?_, rfl, rfl, ?_, ?_⟩
            · (try conv => whnf)
              (repeat' (first | exact True.intro | exact fun _ h => h | refine inR64_of ?_ ?_ | apply And.intro | refine maxLen_ge ?_)) <;> (first | omega | decide | (dsimp only; omega) | (dsimp only [List.length_cons, List.length_nil]; omega) | (intro hg; rw [hg]; rfl) | (intro hg hh; rw [hg, hh]; rfl) | (intro hg; simp [-List.getD_eq_getElem?_getD, -Int.default_eq_zero] at hg; first | omega | (refine inR64_of ?_ ?_ <;> omega) | (constructor <;> omega)) | (simp [-List.getD_eq_getElem?_getD, -Int.default_eq_zero]; done))
            · omega
            all_goals repeat' (first | exact True.intro | refine leF_cons rfl ?_ ?_ | refine leS_cons rfl ?_ ?_ | (show PLe _ _ _ _; conv => whnf) | (show SLe _ _ _ _; conv => whnf) | (show PLeL _ _ _ _; conv => whnf) | apply And.intro | rfl | exact Nat.le_refl _ | exact fun _ _ => rfl | exact rowEq0 _ _)
            all_goals first | (rw [hpt, List.append_assoc]; rfl) | skip
    · replace hc := of_decide_eq_false hc
      have hk : i = l.length := by
        have h : ¬ (i : Int) < l.length := hc
        omega
      subst hk
      rw [List.take_length]
      conv => whnf
      refine ⟨_, fun _ => call46' (printL l), ?_⟩
      conv => whnf
      refine ⟨?_, [], ?_⟩
      · (try conv => whnf)
        (repeat' (first | exact True.intro | exact fun _ h => h | refine inR64_of ?_ ?_ | apply And.intro | refine maxLen_ge ?_)) <;> (first | omega | decide | (dsimp only; omega) | (dsimp only [List.length_cons, List.length_nil]; omega) | (intro hg; rw [hg]; rfl) | (intro hg hh; rw [hg, hh]; rfl) | (intro hg; simp [-List.getD_eq_getElem?_getD, -Int.default_eq_zero] at hg; first | omega | (refine inR64_of ?_ ?_ <;> omega) | (constructor <;> omega)) | (simp [-List.getD_eq_getElem?_getD, -Int.default_eq_zero]; done))
      conv => whnf
      refine ⟨rfl, ?_, trivial, trivial⟩
      all_goals repeat' (first | exact True.intro | refine leF_cons rfl ?_ ?_ | refine leS_cons rfl ?_ ?_ | (show PLe _ _ _ _; conv => whnf) | (show SLe _ _ _ _; conv => whnf) | (show PLeL _ _ _ _; conv => whnf) | apply And.intro | rfl | exact Nat.le_refl _ | exact fun _ _ => rfl | exact rowEq0 _ _)
set_option maxRecDepth 100000 in
theorem call20_bad (τ : Nat) (l : List Rd) (hl : l.length ≤ 4611686018427387904) (hb : limR l ≠ 0) : PureCall Tryd.prog 20 [.sl τ 4 l.length (fl eRd l)] [] ⟨.tup [.str [], .int .i64 (limR l)], [], []⟩ := by
  refine pure_call mix Tryd.func20 fits20 rfl ?_
  conv => whnf
  refine ⟨?_, fun hc => ?_, fun hc => ?_⟩
  · (try conv => whnf)
    (repeat' (first | exact True.intro | exact fun _ h => h | refine inR64_of ?_ ?_ | apply And.intro | refine maxLen_ge ?_)) <;> (first | omega | decide | (dsimp only; omega) | (dsimp only [List.length_cons, List.length_nil]; omega) | (intro hg; rw [hg]; rfl) | (intro hg hh; rw [hg, hh]; rfl) | (intro hg; simp [-List.getD_eq_getElem?_getD, -Int.default_eq_zero] at hg; first | omega | (refine inR64_of ?_ ?_ <;> omega) | (constructor <;> omega)) | (simp [-List.getD_eq_getElem?_getD, -Int.default_eq_zero]; done))
  · simp only [bif_t, bif_f, decide_eq_true_eq, decide_eq_false_iff_not, Bool.not_eq_true', Bool.not_eq_false', Bool.and_eq_true, Bool.or_eq_true, Bool.and_eq_false_iff, Bool.or_eq_false_iff, beq_iff_eq, bne_iff_ne, beq_eq_false_iff_ne, bne_eq_false_iff_eq, reduceCtorEq, false_and, and_false, true_and, and_true, or_false, false_or, or_true, true_or, not_true_eq_false, not_false_eq_true, Int.toNat_zero] at hc
    rw [show limR l = 10 by unfold limR; rw [if_pos (by omega)]]
    conv => whnf
    refine ⟨?_, [], ?_⟩
    · (try conv => whnf)
      (repeat' (first | exact True.intro | exact fun _ h => h | refine inR64_of ?_ ?_ | apply And.intro | refine maxLen_ge ?_)) <;> (first | omega | decide | (dsimp only; omega) | (dsimp only [List.length_cons, List.length_nil]; omega) | (intro hg; rw [hg]; rfl) | (intro hg hh; rw [hg, hh]; rfl) | (intro hg; simp [-List.getD_eq_getElem?_getD, -Int.default_eq_zero] at hg; first | omega | (refine inR64_of ?_ ?_ <;> omega) | (constructor <;> omega)) | (simp [-List.getD_eq_getElem?_getD, -Int.default_eq_zero]; done))
    conv => whnf
    refine ⟨rfl, ?_, trivial, trivial⟩
    all_goals repeat' (first | exact True.intro | refine leF_cons rfl ?_ ?_ | refine leS_cons rfl ?_ ?_ | (show PLe _ _ _ _; conv => whnf) | (show SLe _ _ _ _; conv => whnf) | (show PLeL _ _ _ _; conv => whnf) | apply And.intro | rfl | exact Nat.le_refl _ | exact fun _ _ => rfl | exact rowEq0 _ _)
  simp only [bif_t, bif_f, decide_eq_true_eq, decide_eq_false_iff_not, Bool.not_eq_true', Bool.not_eq_false', Bool.and_eq_true, Bool.or_eq_true, Bool.and_eq_false_iff, Bool.or_eq_false_iff, beq_iff_eq, bne_iff_ne, beq_eq_false_iff_ne, bne_eq_false_iff_eq, reduceCtorEq, false_and, and_false, true_and, and_true, or_false, false_or, or_true, true_or, not_true_eq_false, not_false_eq_true, Int.toNat_zero] at hc
  have hE : limR l = allR l := by unfold limR; rw [if_neg (by omega)]
  rw [hE] at hb ⊢
  conv => whnf
  refine ⟨_, fun _ => call33 _ l hl, ?_⟩
  conv => whnf
  refine ⟨?_, fun hc => ?_, fun hc => ?_⟩
  · (try conv => whnf)
    (repeat' (first | exact True.intro | exact fun _ h => h | refine inR64_of ?_ ?_ | apply And.intro | refine maxLen_ge ?_)) <;> (first | omega | decide | (dsimp only; omega) | (dsimp only [List.length_cons, List.length_nil]; omega) | (intro hg; rw [hg]; rfl) | (intro hg hh; rw [hg, hh]; rfl) | (intro hg; simp [-List.getD_eq_getElem?_getD, -Int.default_eq_zero] at hg; first | omega | (refine inR64_of ?_ ?_ <;> omega) | (constructor <;> omega)) | (simp [-List.getD_eq_getElem?_getD, -Int.default_eq_zero]; done))
  · conv => whnf
    refine ⟨?_, [], ?_⟩
    · (try conv => whnf)
      (repeat' (first | exact True.intro | exact fun _ h => h | refine inR64_of ?_ ?_ | apply And.intro | refine maxLen_ge ?_)) <;> (first | omega | decide | (dsimp only; omega) | (dsimp only [List.length_cons, List.length_nil]; omega) | (intro hg; rw [hg]; rfl) | (intro hg hh; rw [hg, hh]; rfl) | (intro hg; simp [-List.getD_eq_getElem?_getD, -Int.default_eq_zero] at hg; first | omega | (refine inR64_of ?_ ?_ <;> omega) | (constructor <;> omega)) | (simp [-List.getD_eq_getElem?_getD, -Int.default_eq_zero]; done))
    conv => whnf
    refine ⟨rfl, ?_, trivial, trivial⟩
    all_goals repeat' (first | exact True.intro | refine leF_cons rfl ?_ ?_ | refine leS_cons rfl ?_ ?_ | (show PLe _ _ _ _; conv => whnf) | (show SLe _ _ _ _; conv => whnf) | (show PLeL _ _ _ _; conv => whnf) | apply And.intro | rfl | exact Nat.le_refl _ | exact fun _ _ => rfl | exact rowEq0 _ _)
  · exact absurd (by simpa using hc) hb
set_option maxRecDepth 100000 in
set_option maxHeartbeats 4000000 in
theorem call20 (τ : Nat) (l : List Rd) (hl : l.length ≤ 4611686018427387904) (hb : limR l = 0) : PureCall Tryd.prog 20 [.sl τ 4 l.length (fl eRd l)] [] ⟨.tup [.str (printL l), .int .i64 0], [], []⟩ := by
  obtain ⟨hl2, hV⟩ := lim_ok hb
  refine pure_call mix Tryd.func20 fits20 rfl ?_
  conv => whnf
  refine ⟨?_, fun hc => ?_, fun hc => ?_⟩
  · (try conv => whnf)
    (repeat' (first | exact True.intro | exact fun _ h => h | refine inR64_of ?_ ?_ | apply And.intro | refine maxLen_ge ?_)) <;> (first | omega | decide | (dsimp only; omega) | (dsimp only [List.length_cons, List.length_nil]; omega) | (intro hg; rw [hg]; rfl) | (intro hg hh; rw [hg, hh]; rfl) | (intro hg; simp [-List.getD_eq_getElem?_getD, -Int.default_eq_zero] at hg; first | omega | (refine inR64_of ?_ ?_ <;> omega) | (constructor <;> omega)) | (simp [-List.getD_eq_getElem?_getD, -Int.default_eq_zero]; done))
  · simp only [bif_t, bif_f, decide_eq_true_eq, decide_eq_false_iff_not, Bool.not_eq_true', Bool.not_eq_false', Bool.and_eq_true, Bool.or_eq_true, Bool.and_eq_false_iff, Bool.or_eq_false_iff, beq_iff_eq, bne_iff_ne, beq_eq_false_iff_ne, bne_eq_false_iff_eq, reduceCtorEq, false_and, and_false, true_and, and_true, or_false, false_or, or_true, true_or, not_true_eq_false, not_false_eq_true, Int.toNat_zero] at hc; omega
  have hE : allR l = 0 := by rw [← hb]; unfold limR; rw [if_neg (by omega)]
  conv => whnf
  refine ⟨_, fun _ => call33 _ l hl, ?_⟩
  rw [hE]
  conv => whnf
  refine ⟨?_, fun hc => (by cases hc), fun hc => ?_⟩
  · (try conv => whnf)
    (repeat' (first | exact True.intro | exact fun _ h => h | refine inR64_of ?_ ?_ | apply And.intro | refine maxLen_ge ?_)) <;> (first | omega | decide | (dsimp only; omega) | (dsimp only [List.length_cons, List.length_nil]; omega) | (intro hg; rw [hg]; rfl) | (intro hg hh; rw [hg, hh]; rfl) | (intro hg; simp [-List.getD_eq_getElem?_getD, -Int.default_eq_zero] at hg; first | omega | (refine inR64_of ?_ ?_ <;> omega) | (constructor <;> omega)) | (simp [-List.getD_eq_getElem?_getD, -Int.default_eq_zero]; done))
  conv => whnf
  refine ⟨trivial, ?_⟩
  refine LSem.loop (n := 47) mix (α := Nat) (fun i => i ≤ l.length)
    (fun i => [(5, .str (printL (l.take i))), (16, .sl τ 4 l.length (fl eRd l)), (17, .int .i64 l.length), (18, .int .i64 i)])
    (fun i => []) (fun i => l.length - i) 0 ?_ ?_ ?_
  · exact Nat.zero_le _
  · refine ⟨rfl, rfl, ?_, ?_⟩
    all_goals repeat' (first | exact True.intro | refine leF_cons rfl ?_ ?_ | refine leS_cons rfl ?_ ?_ | (show PLe _ _ _ _; conv => whnf) | (show SLe _ _ _ _; conv => whnf) | (show PLeL _ _ _ _; conv => whnf) | apply And.intro | rfl | exact Nat.le_refl _ | exact fun _ _ => rfl | exact rowEq0 _ _)
    all_goals skip
  · intro i hi
    have hj : ((i : Int)).toNat = i := by omega
    conv => whnf
    refine ⟨trivial, fun hc => ?_, fun hc => ?_⟩
    · replace hc := of_decide_eq_true hc
      have hlt : i < l.length := by
        have h : (i : Int) < l.length := hc
        omega
      have hpl := printL_len hV i hi
      have hpt := printL_take hlt
      have hr := hV i hlt
      have hll := lineT_len hr
      conv => whnf
      rw [hj]
      generalize l.getD i default = r at hpt hr hll ⊢
      obtain ⟨h1, h2, h3, h4⟩ := hr
      have a1 := Lib.itoa_length_le r.g (by omega) (by omega)
      have a2 := Lib.itoa_length_le r.t (by omega) (by omega)
      have a3 := Lib.itoa_length_le r.v (by omega) (by omega)
      have a4 : (flagWords.getD r.f.toNat default).length ≤ 5 := wordT_len (f := r.f)
      have hTe : printL (l.take (i + 1)) = printL (l.take i) ++ ((((((Lib.itoa r.g ++ [32]) ++ Lib.itoa r.t) ++ [32]) ++ Lib.itoa r.v) ++ [32]) ++ flagWords.getD r.f.toNat default ++ [10]) := by
        rw [hpt]; simp [lineT, tJ, wordT]
      refine ⟨_, fun _ => call37 r.g (by omega) (by omega), ?_⟩
      conv => whnf
      refine ⟨_, fun _ => call37 r.t (by omega) (by omega), ?_⟩
      conv => whnf
      refine ⟨_, fun _ => call37 r.v (by omega) (by omega), ?_⟩
      conv => whnf
      refine ⟨_, fun _ => call38, ?_⟩
      conv => whnf
      refine ⟨rfl, ?_⟩
      conv => whnf
      refine ⟨?_, i + 1, hlt, ?_, rfl, rfl, ?_, ?_⟩
      · (try conv => whnf)
        simp only [List.length_append, List.length_cons, List.length_nil]
        (try conv => whnf)
        (repeat' (first | exact True.intro | exact fun _ h => h | refine inR64_of ?_ ?_ | apply And.intro | refine maxLen_ge ?_)) <;> (first | omega | decide | (dsimp only; omega) | (dsimp only [List.length_cons, List.length_nil]; omega) | (intro hg; rw [hg]; rfl) | (intro hg hh; rw [hg, hh]; rfl) | (intro hg; simp [-List.getD_eq_getElem?_getD, -Int.default_eq_zero] at hg; first | omega | (refine inR64_of ?_ ?_ <;> omega) | (constructor <;> omega)) | (simp [-List.getD_eq_getElem?_getD, -Int.default_eq_zero]; done))
      · omega
      all_goals repeat' (first | exact True.intro | refine leF_cons rfl ?_ ?_ | refine leS_cons rfl ?_ ?_ | (show PLe _ _ _ _; conv => whnf) | (show SLe _ _ _ _; conv => whnf) | (show PLeL _ _ _ _; conv => whnf) | apply And.intro | rfl | exact Nat.le_refl _ | exact fun _ _ => rfl | exact rowEq0 _ _)
      all_goals first | (rw [hTe]; done) | skip
    · replace hc := of_decide_eq_false hc
      have hk : i = l.length := by
        have h : ¬ (i : Int) < l.length := hc
        omega
      subst hk
      rw [List.take_length]
      conv => whnf
      refine ⟨?_, [], ?_⟩
      · (try conv => whnf)
        (repeat' (first | exact True.intro | exact fun _ h => h | refine inR64_of ?_ ?_ | apply And.intro | refine maxLen_ge ?_)) <;> (first | omega | decide | (dsimp only; omega) | (dsimp only [List.length_cons, List.length_nil]; omega) | (intro hg; rw [hg]; rfl) | (intro hg hh; rw [hg, hh]; rfl) | (intro hg; simp [-List.getD_eq_getElem?_getD, -Int.default_eq_zero] at hg; first | omega | (refine inR64_of ?_ ?_ <;> omega) | (constructor <;> omega)) | (simp [-List.getD_eq_getElem?_getD, -Int.default_eq_zero]; done))
      conv => whnf
      refine ⟨rfl, ?_, trivial, trivial⟩
      all_goals repeat' (first | exact True.intro | refine leF_cons rfl ?_ ?_ | refine leS_cons rfl ?_ ?_ | (show PLe _ _ _ _; conv => whnf) | (show SLe _ _ _ _; conv => whnf) | (show PLeL _ _ _ _; conv => whnf) | apply And.intro | rfl | exact Nat.le_refl _ | exact fun _ _ => rfl | exact rowEq0 _ _)
end Pv
end Go.Proofs.YtgbknfbcjddnhaaDoor

/- LAW 06, THE WALKS: the example of the chapter. -/
set_option linter.unusedSimpArgs false
set_option linter.unusedVariables false
namespace Go.Proofs.YtgbknfbcjddnhaaDoor
namespace Pv
def c9 : C := (.seq (.reg [⟨(some 0), 0, none, .mv (.c (.bool false))⟩])
  (.seq (.reg [⟨(some 5), 80, none, .call (.c (.fn (.func 22) [] [])) [(.c (.str [51, 32, 57, 54, 32, 49, 50, 53, 48, 32, 111, 107]))]⟩,
    ⟨(some 4), 64, none, .mv (.t 5)⟩,
    ⟨(some 6), 96, none, .ex (.t 4) 0⟩,
    ⟨(some 7), 112, none, .ex (.t 4) 1⟩,
    ⟨(some 8), 128, none, .ex (.t 4) 2⟩,
    ⟨(some 1), 16, none, .mv (.t 6)⟩,
    ⟨(some 2), 32, none, .mv (.t 7)⟩,
    ⟨(some 3), 48, none, .mv (.t 8)⟩])
  (.seq (.reg [⟨(some 9), 144, none, .mv (.t 3)⟩,
    ⟨(some 10), 160, none, .bi false .eql (.t 9) (.c (.int .i64 0))⟩,
    ⟨(some 11), 176, none, .mv (.t 10)⟩,
    ⟨(some 12), 192, (some (11, true)), .mv (.t 2)⟩,
    ⟨(some 13), 208, (some (11, true)), .bi false .eql (.t 12) (.c (.int .i64 0))⟩,
    ⟨(some 14), 224, none, .pick (.t 11) (.t 13) (.c (.bool false))⟩,
    ⟨(some 15), 240, none, .mv (.t 14)⟩,
    ⟨(some 16), 256, (some (15, true)), .mv (.t 1)⟩,
    ⟨(some 17), 272, (some (15, true)), .len (.t 16)⟩,
    ⟨(some 18), 288, (some (15, true)), .bi false .eql (.t 17) (.c (.int .i64 1))⟩,
    ⟨(some 19), 304, none, .pick (.t 15) (.t 18) (.c (.bool false))⟩,
    ⟨(some 20), 320, none, .mv (.t 19)⟩,
    ⟨(some 21), 336, (some (20, true)), .mv (.t 1)⟩,
    ⟨(some 22), 352, (some (20, true)), .ia 4 (.t 21) (.c (.int .i64 0))⟩,
    ⟨(some 23), 368, (some (20, true)), .ld 4 true (.t 22)⟩,
    ⟨(some 24), 384, (some (20, true)), .bd [(.int .i64 0), (.int .i64 0), (.int .i64 0), (.int .i64 0)] [(0, 1, (.c (.int .i64 3))), (1, 1, (.c (.int .i64 96))), (2, 1, (.c (.int .i64 1250)))]⟩,
    ⟨(some 25), 400, (some (20, true)), .eqa false [0, 0, 0, 0] (.t 23) (.t 24)⟩,
    ⟨(some 26), 416, none, .pick (.t 20) (.t 25) (.c (.bool false))⟩,
    ⟨(some 27), 432, none, .mv (.t 26)⟩,
    ⟨(some 28), 448, (some (27, true)), .bs 5 1 [(.c (.int .u8 0))]⟩,
    ⟨(some 29), 464, (some (27, true)), .call (.c (.fn (.func 28) [] [])) [(.t 28)]⟩,
    ⟨(some 30), 480, (some (27, true)), .bi false .eql (.t 29) (.c (.int .i64 1))⟩,
    ⟨(some 31), 496, none, .pick (.t 27) (.t 30) (.c (.bool false))⟩,
    ⟨(some 0), 0, none, .mv (.t 31)⟩])
  .ret)))
theorem fits9 : fits Tryd.prog false Tryd.f9 0 32 [(0, none)] = some c9.er := by kernel_rfl

def exT : List UInt8 := [51, 32, 57, 54, 32, 49, 50, 53, 48, 32, 111, 107]
set_option maxRecDepth 100000 in
theorem ex_parse : parseF exT = ([⟨3, 96, 1250, 0⟩], 0, 0) := by decide
theorem ex_sum : sumF [0] = 1 := by decide

set_option maxRecDepth 100000 in
theorem call9 : PureCall Tryd.prog 9 [] [] ⟨.bool true, [], []⟩ := by
  refine pure_call mix Tryd.func9 fits9 rfl ?_
  conv => whnf
  refine ⟨_, fun _ => call22 exT (by decide), ?_⟩
  rw [ex_parse]
  conv => whnf
  refine ⟨_, fun _ => PureCall.arg_le (call28 2 [0] (by decide)) rfl ⟨⟨Nat.le_refl _, rfl, rfl, fun i hi => by match i, hi with | 0, _ => rfl⟩, trivial⟩, ?_⟩
  rw [ex_sum]
  conv => whnf
  refine ⟨?_, [], ?_⟩
  · (try conv => whnf)
    (repeat' (first | exact True.intro | exact fun _ h => h | refine inR64_of ?_ ?_ | apply And.intro | refine maxLen_ge ?_)) <;> (first | omega | decide | (dsimp only; omega) | (dsimp only [List.length_cons, List.length_nil]; omega) | (intro hg; rw [hg]; rfl) | (intro hg hh; rw [hg, hh]; rfl) | (intro hg; simp [-List.getD_eq_getElem?_getD, -Int.default_eq_zero] at hg; first | omega | (refine inR64_of ?_ ?_ <;> omega) | (constructor <;> omega)) | (simp [-List.getD_eq_getElem?_getD, -Int.default_eq_zero]; done))
  conv => whnf
  refine ⟨rfl, ?_, trivial, trivial⟩
  all_goals repeat' (first | exact True.intro | refine leF_cons rfl ?_ ?_ | refine leS_cons rfl ?_ ?_ | (show PLe _ _ _ _; conv => whnf) | (show SLe _ _ _ _; conv => whnf) | (show PLeL _ _ _ _; conv => whnf) | apply And.intro | rfl | exact Nat.le_refl _ | exact fun _ _ => rfl | exact rowEq0 _ _)
end Pv
end Go.Proofs.YtgbknfbcjddnhaaDoor

/- LAW 06: readings are read back from their bytes. No program in sight. -/
set_option linter.unusedSimpArgs false
set_option linter.unusedVariables false
namespace Go.Proofs.YtgbknfbcjddnhaaDoor
namespace Pv

theorem w8_nat (n : Int) : ((w8 n).toNat : Int) = n % 256 := by
  have h2 : (w8 n).toNat = (n % 256).toNat % 256 := UInt8.toNat_ofNat'
  rw [h2]; omega
theorem sum_split {s : Int} (h : 0 ≤ s ∧ s ≤ 65520) : ((w8 (s / 2 ^ Int.toNat 8)).toNat : Int) * 256 + ((w8 s).toNat : Int) = s := by
  rw [w8_nat, w8_nat, pw8]; omega
theorem w4_word {n : Int} (h : 0 ≤ n ∧ n < 4294967296) : ((w8 (n / 2 ^ Int.toNat 24)).toNat : Int) * 16777216 + ((w8 (n / 2 ^ Int.toNat 16)).toNat : Int) * 65536 + ((w8 (n / 2 ^ Int.toNat 8)).toNat : Int) * 256 + ((w8 n).toNat : Int) = n := by
  rw [w8_nat, w8_nat, w8_nat, w8_nat, pw24, pw16, pw8]; omega
theorem recV_C {r : Rd} (h : RdV r) : recV (recC r) = r := by
  obtain ⟨g, t, v, f⟩ := r
  obtain ⟨h1, h2, h3, h4⟩ := h
  dsimp only at h1 h2 h3 h4
  have e0 : gB (recC ⟨g, t, v, f⟩) 0 = g := by
    show ((w8 g).toNat : Int) = g
    rw [w8_nat]; omega
  have e9 : gB (recC ⟨g, t, v, f⟩) 9 = f := by
    show ((w8 f).toNat : Int) = f
    rw [w8_nat]; omega
  have e1 : wordF (recC ⟨g, t, v, f⟩) 1 = t := w4_word (n := t) (by omega)
  have e5 : wordF (recC ⟨g, t, v, f⟩) 5 = v := w4_word (n := v) (by omega)
  unfold recV
  rw [e0, e1, e5, e9]
theorem recF_C {r : Rd} (h : RdV r) : recF (recC r) = (r, 0) := by
  have hs : sumF ((recC r).take 10) = gB (recC r) 10 * 256 + gB (recC r) 11 := by
    have e : (recC r).take 10 = bodyB r := rfl
    rw [e]
    exact (sum_split (sumF_rng (bodyB r))).symm
  unfold recF
  rw [if_neg (by rw [recC_len]; decide), if_neg (fun hh => hh hs), recV_C h, V_checkR h]
theorem encL_cons (r : Rd) (l : List Rd) : encL (r :: l) = recC r ++ encL l := rfl
theorem encL_append (a b : List Rd) : encL (a ++ b) = encL a ++ encL b := by simp [encL]
/-- Records ahead of whatever: they are read, and what is behind them. -/
theorem decG_enc : ∀ (l : List Rd) (m : Nat) (a : Int) (out : List Rd) (X : List UInt8), (∀ r ∈ l, RdV r) → decG (m + l.length) a out (encL l ++ X) = decG m (a + 12 * l.length) (out ++ l) X
  | [], m, a, out, X, _ => by simp [encL]
  | r :: l, m, a, out, X, h => by
    have hr := h r (List.mem_cons_self ..)
    have ht : (encL (r :: l) ++ X).take 12 = recC r := by
      rw [encL_cons, List.append_assoc]
      exact List.take_left' (recC_len r)
    have hd : (encL (r :: l) ++ X).drop 12 = encL l ++ X := by
      rw [encL_cons, List.append_assoc]
      exact List.drop_left' (recC_len r)
    have hl : (encL (r :: l) ++ X).length ≠ 0 := by
      rw [encL_cons, List.append_assoc, List.length_append, recC_len]; omega
    have e : m + (r :: l).length = (m + l.length) + 1 := by simp only [List.length_cons]; omega
    rw [e]
    simp only [decG]
    rw [if_neg hl, ht, hd, recF_C hr, if_neg (fun hh => hh rfl), decG_enc l m _ _ X (fun x hx => h x (List.mem_cons_of_mem _ hx))]
    congr 1
    · simp only [List.length_cons]; omega
    · simp
theorem decG_nil (m : Nat) (a : Int) (out : List Rd) : decG (m + 1) a out [] = (out, 0, 0) := by simp [decG]
theorem decF_enc {l : List Rd} (hl : l.length ≤ 4096) (h : ∀ r ∈ l, RdV r) : decF (encL l) = (l, 0, 0) := by
  unfold decF
  rw [if_neg (by rw [encL_len]; omega), encL_len]
  have e : 12 * l.length + 1 = (11 * l.length + 1) + l.length := by omega
  have := decG_enc l (11 * l.length + 1) 0 [] [] h
  rw [List.append_nil] at this
  rw [e, this, decG_nil]
  simp
theorem ok_valid {l : List Rd} (h : RdsOK l) : ∀ r ∈ l, RdV r := fun r hr => by
  obtain ⟨k, hk⟩ := List.getElem?_of_mem hr
  have hlt := (List.getElem?_eq_some_iff.1 hk).1
  have := h k hlt
  rw [List.getD_eq_getElem?_getD, hk] at this
  obtain ⟨h1, h2, h3, h4⟩ := this
  simp only [Option.getD_some] at h1 h2 h3 h4
  exact ⟨by omega, by omega, by omega, h4⟩
theorem valid_getD {l : List Rd} (h : ∀ r ∈ l, RdV r) : ∀ i, i < l.length → RdV (l.getD i default) := fun i hi => h _ (getD_mem hi)
theorem lim_valid {l : List Rd} (hl : l.length ≤ 4096) (h : ∀ r ∈ l, RdV r) : limR l = 0 := by
  unfold limR
  rw [if_neg (by omega)]
  unfold allR
  have hz : ∀ k, k < l.length → checkR (l.getD k default) = 0 := fun k hk => V_checkR (valid_getD h k hk)
  have key : ∀ n i, i + n ≤ l.length → scan (fun k => checkR (l.getD k default)) i n = 0 := by
    intro n
    induction n with
    | zero => intros; rfl
    | succ n ih =>
      intro i hi
      simp only [scan]
      rw [if_neg (fun hh => hh (hz i (by omega)))]
      exact ih (i + 1) (by omega)
  exact key l.length 0 (by omega)
end Pv
end Go.Proofs.YtgbknfbcjddnhaaDoor

/- LAW 06: readings are read back from their text. No program in sight. -/
set_option linter.unusedSimpArgs false
set_option linter.unusedVariables false
namespace Go.Proofs.YtgbknfbcjddnhaaDoor
namespace Pv

theorem splitC_clean {c : UInt8} : ∀ {a : List UInt8}, (∀ x ∈ a, x ≠ c) → splitC c a = [a]
  | [], _ => rfl
  | x :: xs, h => by
    have ih := splitC_clean (c := c) (a := xs) (fun y hy => h y (by simp [hy]))
    simp only [splitC, if_neg (h x (by simp)), ih]
theorem splitC_cut {c : UInt8} {r : List UInt8} : ∀ {a : List UInt8}, (∀ x ∈ a, x ≠ c) → splitC c (a ++ c :: r) = a :: splitC c r
  | [], _ => by simp [splitC]
  | x :: xs, h => by
    have ih := splitC_cut (c := c) (r := r) (a := xs) (fun y hy => h y (by simp [hy]))
    simp only [List.cons_append, splitC, if_neg (h x (by simp)), ih]

/-! ### numerals -/
theorem dig_nat {d : Nat} (h : d < 10) : (UInt8.ofNat (48 + d)).toNat = 48 + d := by
  rw [UInt8.toNat_ofNat']; omega
theorem decDigits_small {u : Nat} (h : u < 10) : Lib.decDigits u = [UInt8.ofNat (48 + u)] := by rw [Lib.decDigits, dif_pos h]
theorem decDigits_big {u : Nat} (h : ¬ u < 10) : Lib.decDigits u = Lib.decDigits (u / 10) ++ [UInt8.ofNat (48 + u % 10)] := by rw [Lib.decDigits, dif_neg h]
theorem decDigits_dig (u : Nat) : ∀ x ∈ Lib.decDigits u, 48 ≤ x.toNat ∧ x.toNat ≤ 57 := by
  induction u using Nat.strongRecOn with
  | ind u ih =>
    intro x hx
    by_cases h : u < 10
    · rw [decDigits_small h, List.mem_singleton] at hx
      rw [hx, dig_nat h]; omega
    · rw [decDigits_big h, List.mem_append, List.mem_singleton] at hx
      rcases hx with hx | hx
      · exact ih (u / 10) (by omega) x hx
      · rw [hx, dig_nat (by omega)]; omega
theorem digs_snoc : ∀ {s : List UInt8} {a : Int} {d : Nat}, d < 10 → digs a (s ++ [UInt8.ofNat (48 + d)]) = (digs a s).map fun b => 10 * b + (d : Int)
  | [], a, d, h => by
    simp only [List.nil_append, digs, dig_nat h, Option.map_some]
    rw [if_neg (by omega)]
    congr 1
    omega
  | c :: cs, a, d, h => by
    simp only [List.cons_append, digs]
    split
    · rfl
    · exact digs_snoc h
theorem digs_dec (u : Nat) : digs 0 (Lib.decDigits u) = some (u : Int) := by
  induction u using Nat.strongRecOn with
  | ind u ih =>
    by_cases h : u < 10
    · rw [decDigits_small h]
      have := digs_snoc (s := []) (a := 0) h
      rw [List.nil_append] at this
      rw [this]
      simp [digs]
    · rw [decDigits_big h, digs_snoc (by omega), ih (u / 10) (by omega)]
      simp only [Option.map_some]
      congr 1
      omega
theorem decDigits_len {k : Nat} : ∀ {u : Nat}, 1 ≤ k → u < 10 ^ k → (Lib.decDigits u).length ≤ k := by
  induction k with
  | zero => intro u h; omega
  | succ k ih =>
    intro u _ hu
    by_cases h : u < 10
    · rw [decDigits_small h]; simp
    · rw [decDigits_big h, List.length_append]
      have hk : 1 ≤ k := by
        rcases k with _ | k
        · simp at hu; omega
        · omega
      have h2 : u / 10 < 10 ^ k := by
        rw [Nat.div_lt_iff_lt_mul (by decide), ← Nat.pow_succ]; exact hu
      have := ih hk h2
      simp only [List.length_cons, List.length_nil]; omega
theorem decDigits_ne (u : Nat) : 1 ≤ (Lib.decDigits u).length := by
  by_cases h : u < 10
  · rw [decDigits_small h]; simp
  · rw [decDigits_big h]; simp
theorem num_itoa {n : Int} (h0 : 0 ≤ n) (h1 : n ≤ 1073741824) : numF (Lib.itoa n) = some n := by
  have he : Lib.itoa n = Lib.decDigits n.toNat := by unfold Lib.itoa; rw [if_neg (by omega)]
  have hl := decDigits_len (k := 10) (u := n.toNat) (by decide) (by
    have : n.toNat ≤ 1073741824 := by omega
    exact Nat.lt_of_le_of_lt this (by decide))
  have hn := decDigits_ne n.toNat
  rw [he]
  unfold numF
  rw [if_neg (by omega), digs_dec]
  congr 1; omega
theorem itoa_ne {n : Int} (h0 : 0 ≤ n) : Lib.itoa n ≠ [] := by
  have he : Lib.itoa n = Lib.decDigits n.toNat := by unfold Lib.itoa; rw [if_neg (by omega)]
  rw [he]
  intro h
  have := decDigits_ne n.toNat
  rw [h] at this; simp at this
theorem itoa_clean {n : Int} (h0 : 0 ≤ n) : ∀ x ∈ Lib.itoa n, x ≠ 32 ∧ x ≠ 10 := fun x hx => by
  have he : Lib.itoa n = Lib.decDigits n.toNat := by unfold Lib.itoa; rw [if_neg (by omega)]
  rw [he] at hx
  have := decDigits_dig _ x hx
  refine ⟨fun e => ?_, fun e => ?_⟩ <;> (subst e; revert this; decide)
theorem wordT_cases {f : Int} (h : 0 ≤ f ∧ f ≤ 2) : (f = 0 ∧ wordT f = fl0) ∨ (f = 1 ∧ wordT f = fl1) ∨ (f = 2 ∧ wordT f = fl2) := by
  have : f = 0 ∨ f = 1 ∨ f = 2 := by omega
  rcases this with rfl | rfl | rfl
  · exact .inl ⟨rfl, rfl⟩
  · exact .inr (.inl ⟨rfl, rfl⟩)
  · exact .inr (.inr ⟨rfl, rfl⟩)
theorem wordT_clean {f : Int} (h : 0 ≤ f ∧ f ≤ 2) : wordT f ≠ [] ∧ ∀ x ∈ wordT f, x ≠ 32 ∧ x ≠ 10 := by
  rcases wordT_cases h with ⟨_, e⟩ | ⟨_, e⟩ | ⟨_, e⟩ <;> (rw [e]; decide)
/-- A line without its end. -/
def lineB (r : Rd) : List UInt8 := Lib.itoa r.g ++ 32 :: (Lib.itoa r.t ++ 32 :: (Lib.itoa r.v ++ 32 :: wordT r.f))
theorem lineT_B (r : Rd) : lineT r = lineB r ++ [10] := by simp [lineT, lineB, tJ]
def wdsR (r : Rd) : List (List UInt8) := [Lib.itoa r.g, Lib.itoa r.t, Lib.itoa r.v, wordT r.f]
theorem bl_no {u : List UInt8} (h : ∀ x ∈ u, x ≠ 32 ∧ x ≠ 10) : ∀ x ∈ u, isBl x = false := fun x hx => by
  have := (h x hx).1
  simp [isBl, this]
theorem words_B {r : Rd} (h : RdV r) : wordsB isBl (lineB r) = wdsR r := by
  obtain ⟨h1, h2, h3, h4⟩ := h
  have hw := wordT_clean h4
  unfold lineB
  rw [words_sep (bl_no (itoa_clean h1.1)) (itoa_ne h1.1) rfl, words_sep (bl_no (itoa_clean h2.1)) (itoa_ne h2.1) rfl, words_sep (bl_no (itoa_clean h3.1)) (itoa_ne h3.1) rfl, words_none (bl_no hw.2) hw.1]
  rfl
theorem lineB_clean {r : Rd} (h : RdV r) : ∀ x ∈ lineB r, x ≠ 10 := by
  obtain ⟨h1, h2, h3, h4⟩ := h
  intro x hx
  unfold lineB at hx
  simp only [List.mem_append, List.mem_cons] at hx
  rcases hx with hx | rfl | hx | rfl | hx | rfl | hx
  · exact (itoa_clean h1.1 x hx).2
  · decide
  · exact (itoa_clean h2.1 x hx).2
  · decide
  · exact (itoa_clean h3.1 x hx).2
  · decide
  · exact ((wordT_clean h4).2 x hx).2
theorem line_back {r : Rd} (h : RdV r) : lineG (wdsR r) = (r, true) := by
  obtain ⟨g, t, v, f⟩ := r
  obtain ⟨h1, h2, h3, h4⟩ := h
  dsimp only at h1 h2 h3 h4
  have n0 : numF ((wdsR ⟨g, t, v, f⟩).getD 0 default) = some g := num_itoa (n := g) h1.1 (by omega)
  have n1 : numF ((wdsR ⟨g, t, v, f⟩).getD 1 default) = some t := num_itoa (n := t) h2.1 (by omega)
  have n2 : numF ((wdsR ⟨g, t, v, f⟩).getD 2 default) = some v := num_itoa h3.1 h3.2
  have n3 : (wdsR ⟨g, t, v, f⟩).getD 3 default = wordT f := rfl
  have hl : (wdsR ⟨g, t, v, f⟩).length = 4 := rfl
  unfold lineG isG nG
  rw [n0, n1, n2, n3, hl]
  rcases wordT_cases h4 with ⟨rfl, e⟩ | ⟨rfl, e⟩ | ⟨rfl, e⟩ <;> (rw [e]; rfl)
theorem printL_cons (r : Rd) (l : List Rd) : printL (r :: l) = lineB r ++ 10 :: printL l := by
  simp [printL, lineT_B]
theorem split_print : ∀ {l : List Rd}, (∀ r ∈ l, RdV r) → splitC 10 (printL l) = l.map lineB ++ [[]]
  | [], _ => rfl
  | r :: l, h => by
    rw [printL_cons, splitC_cut (lineB_clean (h r (List.mem_cons_self ..))), split_print (fun x hx => h x (List.mem_cons_of_mem _ hx))]
    rfl
theorem linesW_print {l : List Rd} (h : ∀ r ∈ l, RdV r) : linesW (printL l) = l.map wdsR ++ [[]] := by
  unfold linesW
  rw [split_print h, List.map_append, List.map_map]
  congr 1
  exact List.map_congr_left fun r hr => words_B (h r hr)
theorem parL_back : ∀ (l : List Rd) (i : Int) (out : List Rd), (∀ r ∈ l, RdV r) → parL i out (l.map wdsR ++ [[]]) = (out ++ l, 0, 0)
  | [], i, out, _ => by simp [parL]
  | r :: l, i, out, h => by
    have hr := h r (List.mem_cons_self ..)
    show parL i out (wdsR r :: (l.map wdsR ++ [[]])) = _
    simp only [parL]
    rw [line_back hr, if_neg (show ¬ (wdsR r).length = 0 from fun hh => by cases hh), if_neg (fun hh => by cases hh), if_neg (fun hh => hh (V_checkR hr)), parL_back l _ _ (fun x hx => h x (List.mem_cons_of_mem _ hx))]
    simp
theorem parse_print {l : List Rd} (hl : l.length ≤ 600) (h : ∀ r ∈ l, RdV r) : parseF (printL l) = (l, 0, 0) := by
  have hlen := printL_len (valid_getD h) l.length (Nat.le_refl _)
  rw [List.take_length] at hlen
  have hc := cntW_le (linesW (printL l))
  have hw := linesW_print h
  have hwl : (linesW (printL l)).length = l.length + 1 := by rw [hw]; simp
  unfold parseF
  rw [if_neg (by omega), if_neg (by omega), hw, parL_back l 0 [] h]
  simp
end Pv
end Go.Proofs.YtgbknfbcjddnhaaDoor

/- LAW 06: GaugeReads answers true. -/
set_option linter.unusedSimpArgs false
set_option linter.unusedVariables false
namespace Go.Proofs.YtgbknfbcjddnhaaDoor
namespace Pv
def c6L1 : C := (.seq (.reg [⟨(some 101), 1616, none, .bi false .lss (.t 100) (.t 99)⟩])
  (.seq (.cond (.t 101) .skip (.exit 0))
  (.seq (.block 1 (.seq (.reg [⟨(some 102), 1632, none, .ia 1 (.t 98) (.t 100)⟩,
    ⟨(some 103), 1648, none, .ld 1 false (.t 102)⟩,
    ⟨(some 20), 320, none, .mv (.t 103)⟩])
  (.seq (.reg [⟨(some 105), 1680, none, .mv (.t 20)⟩,
    ⟨(some 106), 1696, none, .call (.c (.fn (.func 18) [] [])) [(.t 105)]⟩,
    ⟨(some 104), 1664, none, .mv (.t 106)⟩,
    ⟨(some 107), 1712, none, .ex (.t 104) 0⟩,
    ⟨(some 108), 1728, none, .ex (.t 104) 1⟩,
    ⟨(some 109), 1744, none, .ex (.t 104) 2⟩,
    ⟨(some 21), 336, none, .mv (.t 107)⟩,
    ⟨(some 22), 352, none, .mv (.t 108)⟩,
    ⟨(some 23), 368, none, .mv (.t 109)⟩])
  (.seq (.reg [⟨(some 111), 1776, none, .mv (.t 20)⟩,
    ⟨(some 112), 1792, none, .call (.c (.fn (.func 21) [] [])) [(.t 111)]⟩,
    ⟨(some 110), 1760, none, .mv (.t 112)⟩,
    ⟨(some 113), 1808, none, .ex (.t 110) 0⟩,
    ⟨(some 114), 1824, none, .ex (.t 110) 1⟩,
    ⟨(some 115), 1840, none, .ex (.t 110) 2⟩,
    ⟨(some 24), 384, none, .mv (.t 113)⟩,
    ⟨(some 25), 400, none, .mv (.t 114)⟩,
    ⟨(some 26), 416, none, .mv (.t 115)⟩])
  (.seq (.reg [⟨(some 116), 1856, none, .mv (.t 23)⟩,
    ⟨(some 117), 1872, none, .mv (.t 26)⟩,
    ⟨(some 118), 1888, none, .bi false .neq (.t 116) (.t 117)⟩,
    ⟨(some 119), 1904, none, .mv (.t 118)⟩,
    ⟨(some 120), 1920, (some (119, false)), .mv (.t 22)⟩,
    ⟨(some 121), 1936, (some (119, false)), .mv (.t 25)⟩,
    ⟨(some 122), 1952, (some (119, false)), .bi false .neq (.t 120) (.t 121)⟩,
    ⟨(some 123), 1968, none, .pick (.t 119) (.c (.bool true)) (.t 122)⟩,
    ⟨(some 124), 1984, none, .mv (.t 123)⟩,
    ⟨(some 125), 2000, (some (124, false)), .mv (.t 21)⟩,
    ⟨(some 126), 2016, (some (124, false)), .mv (.t 24)⟩,
    ⟨(some 127), 2032, (some (124, false)), .call (.c (.fn (.func 15) [] [])) [(.t 125), (.t 126)]⟩,
    ⟨(some 128), 2048, (some (124, false)), .un false .not (.t 127)⟩,
    ⟨(some 129), 2064, none, .pick (.t 124) (.c (.bool true)) (.t 128)⟩])
  (.cond (.t 129) (.seq (.reg [⟨(some 10), 160, none, .mv (.c (.bool false))⟩])
  .ret) .skip))))))
  (.reg [⟨(some 130), 2080, none, .bi false .add (.t 100) (.c (.int .i64 1))⟩,
    ⟨(some 100), 1600, none, .mv (.t 130)⟩]))))
def c6L2 : C := (.seq (.reg [⟨(some 143), 2288, none, .bi false .lss (.t 142) (.t 141)⟩])
  (.seq (.cond (.t 143) .skip (.exit 2))
  (.seq (.block 3 (.seq (.reg [⟨(some 144), 2304, none, .ia 1 (.t 140) (.t 142)⟩,
    ⟨(some 145), 2320, none, .ld 1 false (.t 144)⟩,
    ⟨(some 28), 448, none, .mv (.t 145)⟩])
  (.seq (.reg [⟨(some 147), 2352, none, .mv (.t 28)⟩,
    ⟨(some 148), 2368, none, .call (.c (.fn (.func 22) [] [])) [(.t 147)]⟩,
    ⟨(some 146), 2336, none, .mv (.t 148)⟩,
    ⟨(some 149), 2384, none, .ex (.t 146) 0⟩,
    ⟨(some 150), 2400, none, .ex (.t 146) 1⟩,
    ⟨(some 151), 2416, none, .ex (.t 146) 2⟩,
    ⟨(some 29), 464, none, .mv (.t 149)⟩,
    ⟨(some 30), 480, none, .mv (.t 150)⟩,
    ⟨(some 31), 496, none, .mv (.t 151)⟩])
  (.seq (.reg [⟨(some 153), 2448, none, .mv (.t 28)⟩,
    ⟨(some 154), 2464, none, .call (.c (.fn (.func 23) [] [])) [(.t 153)]⟩,
    ⟨(some 152), 2432, none, .mv (.t 154)⟩,
    ⟨(some 155), 2480, none, .ex (.t 152) 0⟩,
    ⟨(some 156), 2496, none, .ex (.t 152) 1⟩,
    ⟨(some 157), 2512, none, .ex (.t 152) 2⟩,
    ⟨(some 32), 512, none, .mv (.t 155)⟩,
    ⟨(some 33), 528, none, .mv (.t 156)⟩,
    ⟨(some 34), 544, none, .mv (.t 157)⟩])
  (.seq (.reg [⟨(some 158), 2528, none, .mv (.t 31)⟩,
    ⟨(some 159), 2544, none, .mv (.t 34)⟩,
    ⟨(some 160), 2560, none, .bi false .neq (.t 158) (.t 159)⟩,
    ⟨(some 161), 2576, none, .mv (.t 160)⟩,
    ⟨(some 162), 2592, (some (161, false)), .mv (.t 30)⟩,
    ⟨(some 163), 2608, (some (161, false)), .mv (.t 33)⟩,
    ⟨(some 164), 2624, (some (161, false)), .bi false .neq (.t 162) (.t 163)⟩,
    ⟨(some 165), 2640, none, .pick (.t 161) (.c (.bool true)) (.t 164)⟩,
    ⟨(some 166), 2656, none, .mv (.t 165)⟩,
    ⟨(some 167), 2672, (some (166, false)), .mv (.t 29)⟩,
    ⟨(some 168), 2688, (some (166, false)), .mv (.t 32)⟩,
    ⟨(some 169), 2704, (some (166, false)), .call (.c (.fn (.func 15) [] [])) [(.t 167), (.t 168)]⟩,
    ⟨(some 170), 2720, (some (166, false)), .un false .not (.t 169)⟩,
    ⟨(some 171), 2736, none, .pick (.t 166) (.c (.bool true)) (.t 170)⟩])
  (.cond (.t 171) (.seq (.reg [⟨(some 10), 160, none, .mv (.c (.bool false))⟩])
  .ret) .skip))))))
  (.reg [⟨(some 172), 2752, none, .bi false .add (.t 142) (.c (.int .i64 1))⟩,
    ⟨(some 142), 2272, none, .mv (.t 172)⟩]))))
def c6 : C := (.seq (.reg [⟨(some 10), 160, none, .mv (.c (.bool false))⟩])
  (.seq (.seq (.reg [⟨(some 35), 560, none, .mv (.t 0)⟩,
    ⟨(some 36), 576, none, .len (.t 35)⟩,
    ⟨(some 37), 592, none, .bi false .gtr (.t 36) (.c (.int .i64 2000))⟩,
    ⟨(some 38), 608, none, .mv (.t 37)⟩,
    ⟨(some 39), 624, (some (38, false)), .mv (.t 1)⟩,
    ⟨(some 40), 640, (some (38, false)), .lens (.t 39)⟩,
    ⟨(some 41), 656, (some (38, false)), .bi false .gtr (.t 40) (.c (.int .i64 3000))⟩,
    ⟨(some 42), 672, none, .pick (.t 38) (.c (.bool true)) (.t 41)⟩])
  (.cond (.t 42) (.seq (.reg [⟨(some 43), 688, none, .call (.c (.fn (.func 9) [] [])) []⟩,
    ⟨(some 10), 160, none, .mv (.t 43)⟩])
  .ret) .skip))
  (.seq (.reg [⟨(some 44), 704, none, .mv (.t 2)⟩,
    ⟨(some 45), 720, none, .call (.c (.fn (.func 10) [] [])) [(.t 44)]⟩,
    ⟨(some 11), 176, none, .mv (.t 45)⟩])
  (.seq (.reg [⟨(some 46), 736, none, .mv (.t 11)⟩,
    ⟨(some 47), 752, none, .call (.c (.fn (.func 11) [] [])) [(.t 46), (.c (.int .i64 6))]⟩,
    ⟨(some 12), 192, none, .mv (.t 47)⟩])
  (.seq (.reg [⟨(some 49), 784, none, .mv (.t 12)⟩,
    ⟨(some 50), 800, none, .call (.c (.fn (.func 19) [] [])) [(.t 49)]⟩,
    ⟨(some 48), 768, none, .mv (.t 50)⟩,
    ⟨(some 51), 816, none, .ex (.t 48) 0⟩,
    ⟨(some 52), 832, none, .ex (.t 48) 1⟩,
    ⟨(some 13), 208, none, .mv (.t 51)⟩,
    ⟨(some 14), 224, none, .mv (.t 52)⟩])
  (.seq (.reg [⟨(some 54), 864, none, .mv (.t 12)⟩,
    ⟨(some 55), 880, none, .call (.c (.fn (.func 20) [] [])) [(.t 54)]⟩,
    ⟨(some 53), 848, none, .mv (.t 55)⟩,
    ⟨(some 56), 896, none, .ex (.t 53) 0⟩,
    ⟨(some 57), 912, none, .ex (.t 53) 1⟩,
    ⟨(some 15), 240, none, .mv (.t 56)⟩,
    ⟨(some 16), 256, none, .mv (.t 57)⟩])
  (.seq (.reg [⟨(some 58), 928, none, .mv (.t 13)⟩,
    ⟨(some 59), 944, none, .app 5 1 1 (.c (.nil 1)) (.t 58)⟩,
    ⟨(some 60), 960, none, .mv (.t 15)⟩,
    ⟨(some 61), 976, none, .cvb 5 (.t 60)⟩,
    ⟨(some 17), 272, none, .mv (.t 59)⟩,
    ⟨(some 18), 288, none, .mv (.t 61)⟩])
  (.cut (.seq (.seq (.reg [⟨(some 62), 992, none, .mv (.t 17)⟩,
    ⟨(some 63), 1008, none, .len (.t 62)⟩,
    ⟨(some 64), 1024, none, .bi false .gtr (.t 63) (.c (.int .i64 0))⟩])
  (.cond (.t 64) (.reg [⟨(some 65), 1040, none, .mv (.t 17)⟩,
    ⟨(some 66), 1056, none, .mv (.t 3)⟩,
    ⟨(some 67), 1072, none, .mv (.t 17)⟩,
    ⟨(some 68), 1088, none, .len (.t 67)⟩,
    ⟨(some 69), 1104, none, .call (.c (.fn (.func 16) [] [])) [(.t 66), (.t 68)]⟩,
    ⟨(some 70), 1120, none, .mv (.t 4)⟩,
    ⟨(some 71), 1136, none, .cv true .u8 (.t 70)⟩,
    ⟨(some 72), 1152, none, .ia 1 (.t 65) (.t 69)⟩,
    ⟨none, 0, none, .st 1 (.t 72) (.t 71)⟩]) .skip))
  (.cut (.seq (.seq (.reg [⟨(some 73), 1168, none, .mv (.t 18)⟩,
    ⟨(some 74), 1184, none, .len (.t 73)⟩,
    ⟨(some 75), 1200, none, .bi false .gtr (.t 74) (.c (.int .i64 0))⟩])
  (.cond (.t 75) (.reg [⟨(some 76), 1216, none, .mv (.t 18)⟩,
    ⟨(some 77), 1232, none, .mv (.t 3)⟩,
    ⟨(some 78), 1248, none, .mv (.t 18)⟩,
    ⟨(some 79), 1264, none, .len (.t 78)⟩,
    ⟨(some 80), 1280, none, .call (.c (.fn (.func 16) [] [])) [(.t 77), (.t 79)]⟩,
    ⟨(some 81), 1296, none, .mv (.t 4)⟩,
    ⟨(some 82), 1312, none, .call (.c (.fn (.func 16) [] [])) [(.t 81), (.c (.int .i64 15))]⟩,
    ⟨(some 83), 1328, none, .ixs (.c (.str [111, 107, 105, 99, 101, 102, 97, 117, 108, 116, 120, 32, 48, 57, 10])) (.t 82)⟩,
    ⟨(some 84), 1344, none, .ia 1 (.t 76) (.t 80)⟩,
    ⟨none, 0, none, .st 1 (.t 84) (.t 83)⟩]) .skip))
  (.seq (.seq (.reg [⟨(some 85), 1360, none, .mv (.t 0)⟩,
    ⟨(some 86), 1376, none, .mv (.t 13)⟩,
    ⟨(some 87), 1392, none, .mv (.t 17)⟩,
    ⟨(some 88), 1408, none, .mv (.t 17)⟩,
    ⟨(some 89), 1424, none, .mv (.t 17)⟩,
    ⟨(some 90), 1440, none, .len (.t 89)⟩,
    ⟨(some 91), 1456, none, .mv (.t 17)⟩,
    ⟨(some 92), 1472, none, .len (.t 91)⟩,
    ⟨(some 93), 1488, none, .mv (.t 4)⟩,
    ⟨(some 94), 1504, none, .call (.c (.fn (.func 16) [] [])) [(.t 93), (.c (.int .i64 14))]⟩,
    ⟨(some 95), 1520, none, .mn [(.t 92), (.t 94)]⟩,
    ⟨(some 96), 1536, none, .bi false .sub (.t 90) (.t 95)⟩,
    ⟨(some 97), 1552, none, .slc 1 (.t 88) none (some (.t 96))⟩,
    ⟨(some 98), 1568, none, .bs 41 1 [(.t 85), (.t 86), (.t 87), (.t 97)]⟩,
    ⟨(some 99), 1584, none, .len (.t 98)⟩,
    ⟨(some 100), 1600, none, .mv (.c (.int .i64 0))⟩])
  (.block 0 (.loop c6L1)))
  (.seq (.seq (.reg [⟨(some 131), 2096, none, .mv (.t 1)⟩,
    ⟨(some 132), 2112, none, .mv (.t 15)⟩,
    ⟨(some 133), 2128, none, .mv (.t 18)⟩,
    ⟨(some 134), 2144, none, .cvs (.t 133)⟩,
    ⟨(some 135), 2160, none, .mv (.t 15)⟩,
    ⟨(some 136), 2176, none, .bi false .add (.c (.str [32])) (.t 135)⟩,
    ⟨(some 137), 2192, none, .bi false .add (.t 136) (.c (.str [10, 32, 32, 32, 10]))⟩,
    ⟨(some 138), 2208, none, .mv (.t 15)⟩,
    ⟨(some 139), 2224, none, .bi false .add (.t 137) (.t 138)⟩,
    ⟨(some 140), 2240, none, .bs 9 1 [(.t 131), (.t 132), (.t 134), (.t 139)]⟩,
    ⟨(some 141), 2256, none, .len (.t 140)⟩,
    ⟨(some 142), 2272, none, .mv (.c (.int .i64 0))⟩])
  (.block 2 (.loop c6L2)))
  (.seq (.reg [⟨(some 173), 2768, none, .call (.c (.fn (.func 9) [] [])) []⟩,
    ⟨(some 10), 160, none, .mv (.t 173)⟩])
  .ret))))))))))))))
theorem fits6 : fits Tryd.prog false Tryd.f6 5 174 [(10, none)] = some c6.er := by kernel_rfl

theorem decG_len : ∀ (n : Nat) (a : Int) (out : List Rd) (l : List UInt8), (decG n a out l).1.length ≤ out.length + n
  | 0, _, out, _ => Nat.le_refl _
  | n + 1, a, out, l => by
    unfold decG
    split
    · show out.length ≤ _
      omega
    · split
      · exact Nat.zero_le _
      · refine Nat.le_trans (decG_len n _ _ _) ?_
        simp only [List.length_append, List.length_cons, List.length_nil]; omega
theorem decF_len (l : List UInt8) : (decF l).1.length ≤ 50000 := by
  unfold decF
  split
  · exact Nat.zero_le _
  · have := decG_len (l.length + 1) 0 [] l
    simp only [List.length_nil] at this; omega
theorem parL_len : ∀ (W : List (List (List UInt8))) (i : Int) (out : List Rd), (parL i out W).1.length ≤ out.length + cntW W
  | [], _, out => Nat.le_refl _
  | w :: r, i, out => by
    unfold parL
    have hc : cntW r ≤ cntW (w :: r) ∧ (w.length ≠ 0 → cntW (w :: r) = cntW r + 1) := by
      unfold cntW
      constructor
      · exact (List.sublist_cons_self w r).filter _ |>.length_le
      · intro h
        rw [List.filter_cons_of_pos (by simpa using h)]; rfl
    split
    · exact Nat.le_trans (parL_len r _ _) (by omega)
    · rename_i hw
      have := hc.2 hw
      split
      · exact Nat.zero_le _
      · split
        · exact Nat.zero_le _
        · refine Nat.le_trans (parL_len r _ _) ?_
          simp only [List.length_append, List.length_cons, List.length_nil]; omega
theorem parseF_len (s : List UInt8) : (parseF s).1.length ≤ 4096 := by
  unfold parseF
  split
  · exact Nat.zero_le _
  · split
    · exact Nat.zero_le _
    · have := parL_len (linesW s) 0 []
      simp only [List.length_nil] at this; omega
theorem set_eqB {X : List UInt8} {i : Nat} {y : UInt8} : RowEq X.length (fun k => if k = i then setAt (fl eB X i) 0 [.int .u8 (y.toNat : Int)] else fl eB X k) (fl eB (X.set i y)) := fun k hk => by
  by_cases e : k = i
  · subst e
    simp only [if_pos rfl, fl]
    have : (X.set k y).getD k default = y := by simp [List.getD, List.getElem?_set, hk]
    rw [this]; rfl
  · simp only [if_neg e, fl]
    have : (X.set i y).getD k default = X.getD k default := by simp [List.getD, List.getElem?_set, Ne.symm e]
    rw [this]
theorem strOf_f6 (X : List UInt8) : strOf X.length (fl eB X) = X := by
  refine List.ext_getElem (by simp [strOf]) fun i h1 h2 => ?_
  simp only [strOf, List.getElem_map, List.getElem_range]
  show byteOf [.int .u8 (((X.getD i default).toNat : Nat) : Int)] = _
  have hlt : i < X.length := h2
  simp [byteOf, List.getD, hlt]
theorem areBytes_f6 (X : List UInt8) : areBytes X.length (fl eB X) := fun i _ => ⟨X.getD i default, rfl⟩
def okT : List UInt8 := [111, 107, 105, 99, 101, 102, 97, 117, 108, 116, 120, 32, 48, 57, 10]

set_option maxRecDepth 100000 in
set_option maxHeartbeats 64000000 in
theorem call6 (b s : List UInt8) (l : List Int) (p y : Int) (hp : -9223372036854775808 ≤ p ∧ p ≤ 9223372036854775807) (hy : -9223372036854775808 ≤ y ∧ y ≤ 9223372036854775807) :
    PureCall Tryd.prog 6 [.sl 1 1 b.length (fl eB b), .str s, .sl 1 1 l.length (fl eInt l), .int .i64 p, .int .i64 y] [] ⟨.bool true, [], []⟩ := by
  refine pure_call mix Tryd.func6 fits6 rfl ?_
  conv => whnf
  refine ⟨?_, fun hc => ?_, fun hc => ?_⟩
  · (try conv => whnf)
    (repeat' (first | exact True.intro | exact fun _ h => h | apply And.intro)) <;> simp
  · conv => whnf
    refine ⟨_, fun _ => call9, ?_⟩
    conv => whnf
    refine ⟨?_, [], ?_⟩
    · (try conv => whnf)
      (repeat' (first | exact True.intro | exact fun _ h => h | refine inR64_of ?_ ?_ | apply And.intro | refine maxLen_ge ?_)) <;> (first | omega | decide | (dsimp only; omega) | (dsimp only [List.length_cons, List.length_nil]; omega) | (intro hg; rw [hg]; rfl) | (intro hg hh; rw [hg, hh]; rfl) | (intro hg; simp [-List.getD_eq_getElem?_getD, -Int.default_eq_zero] at hg; first | omega | (refine inR64_of ?_ ?_ <;> omega) | (constructor <;> omega)) | (simp [-List.getD_eq_getElem?_getD, -Int.default_eq_zero]; done))
    conv => whnf
    refine ⟨rfl, ?_, trivial, trivial⟩
    all_goals repeat' (first | exact True.intro | refine leF_cons rfl ?_ ?_ | refine leS_cons rfl ?_ ?_ | (show PLe _ _ _ _; conv => whnf) | (show SLe _ _ _ _; conv => whnf) | (show PLeL _ _ _ _; conv => whnf) | apply And.intro | rfl | exact Nat.le_refl _ | exact fun _ _ => rfl | exact rowEq0 _ _)
  have hbl : b.length ≤ 2000 := by
    rcases Nat.lt_or_ge 2000 b.length with h | h
    · rw [decide_eq_true (show (2000 : Int) < b.length by omega)] at hc; cases hc
    · exact h
  have hsl : s.length ≤ 3000 := by
    rw [decide_eq_false (show ¬ (2000 : Int) < b.length by omega)] at hc
    have h : ¬ (3000 : Int) < s.length := of_decide_eq_false hc
    omega
  clear hc
  conv => whnf
  refine ⟨_, fun _ => call_new 1 l, ?_⟩
  conv => whnf
  refine ⟨_, fun _ => call11 ⟨l, 0⟩ 6 (by dsimp only; omega) (by decide), ?_⟩
  obtain ⟨_, _, _, _, ha1, ha2⟩ := readS_ok ⟨l, 0⟩ 6 (by decide)
  dsimp only at ha1 ha2
  generalize readS ⟨l, 0⟩ 6 = A at ha1 ha2 ⊢
  have hva := ok_valid ha2
  have la : A.l.length ≤ 6 := by omega
  have hb := lim_valid (by omega) hva
  have hpl := printL_len (valid_getD hva) _ (Nat.le_refl _)
  rw [List.take_length] at hpl
  have hel := encL_len A.l
  conv => whnf
  refine ⟨_, fun _ => call19 _ A.l (by omega) hb, ?_⟩
  conv => whnf
  refine ⟨_, fun _ => call20 _ A.l (by omega) hb, ?_⟩
  generalize printL A.l = T at hpl ⊢
  generalize encL A.l = X at hel ⊢
  have lT : T.length ≤ 600 := by omega
  have lX : X.length ≤ 72 := by omega
  clear hpl hel
  conv => whnf
  refine ⟨?_, ?_⟩
  · (try conv => whnf)
    (repeat' (first | exact True.intro | exact fun _ h => h | apply And.intro | refine maxLen_ge ?_)) <;> (first | omega | (dsimp only; omega))
  refine LSem.meet (n := 174) mix (α := List UInt8) (fun Y => Y.length = X.length)
    (fun Y => [(0, .sl 1 1 b.length (fl eB b)), (1, .str s), (3, .int .i64 p), (4, .int .i64 y), (13, .os 800), (15, .str T), (17, .os 944), (18, .os 976)])
    (fun Y => [(800, .row 1 5 1 X.length (fl eB X)), (944, .row 1 5 1 Y.length (fl eB Y)), (976, .row 0 5 1 T.length (fl eB T))]) ?_ ?_
  · conv => whnf
    refine ⟨?_, fun hc => ?_, fun hc => ?_⟩
    · (try conv => whnf)
      (repeat' (first | exact True.intro | exact fun _ h => h | refine inR64_of ?_ ?_ | apply And.intro | refine maxLen_ge ?_)) <;> (first | omega | decide | (dsimp only; omega) | (dsimp only [List.length_cons, List.length_nil]; omega) | (intro hg; rw [hg]; rfl) | (intro hg hh; rw [hg, hh]; rfl) | (intro hg; simp [-List.getD_eq_getElem?_getD, -Int.default_eq_zero] at hg; first | omega | (refine inR64_of ?_ ?_ <;> omega) | (constructor <;> omega)) | (simp [-List.getD_eq_getElem?_getD, -Int.default_eq_zero]; done))
    · have hpos : 0 < X.length := by
        have h : (0 : Int) < X.length := of_decide_eq_true hc
        omega
      conv => whnf
      refine ⟨_, fun _ => call_mod p X.length (by omega) (by omega), ?_⟩
      obtain ⟨i, hi⟩ : ∃ i : Nat, (i : Int) = p % (X.length : Int) := ⟨(p % (X.length : Int)).toNat, by have := Int.emod_nonneg p (show (X.length : Int) ≠ 0 by omega); omega⟩
      have hil : i < X.length := by have := Int.emod_lt_of_pos p (show (0 : Int) < (X.length : Int) by omega); omega
      rw [← hi]
      have hj : ((i : Int)).toNat = i := by omega
      conv => whnf
      rw [hj]
      have hse := set_eqB (X := X) (i := i) (y := w8 y)
      rw [← w8_wrap] at hse
      refine ⟨?_, X.set i (w8 y), ?_, rfl, rfl, ?_, ?_⟩
      · (try conv => whnf)
        (repeat' (first | exact True.intro | exact fun _ h => h | refine inR64_of ?_ ?_ | apply And.intro | refine maxLen_ge ?_)) <;> (first | omega | decide | (dsimp only; omega) | (dsimp only [List.length_cons, List.length_nil]; omega) | (intro hg; rw [hg]; rfl) | (intro hg hh; rw [hg, hh]; rfl) | (intro hg; simp [-List.getD_eq_getElem?_getD, -Int.default_eq_zero] at hg; first | omega | (refine inR64_of ?_ ?_ <;> omega) | (constructor <;> omega)) | (simp [-List.getD_eq_getElem?_getD, -Int.default_eq_zero]; done))
      · exact List.length_set
      all_goals repeat' (first | exact True.intro | refine leF_cons rfl ?_ ?_ | refine leS_cons rfl ?_ ?_ | (show PLe _ _ _ _; conv => whnf) | (show SLe _ _ _ _; conv => whnf) | (show PLeL _ _ _ _; conv => whnf) | apply And.intro | rfl | exact Nat.le_refl _ | exact fun _ _ => rfl | exact rowEq0 _ _)
      all_goals first | exact hse | exact List.length_set.symm | exact fun k hk => rfl | skip
    · conv => whnf
      refine ⟨?_, X, rfl, rfl, rfl, ?_, ?_⟩
      · (try conv => whnf)
        (repeat' (first | exact True.intro | exact fun _ h => h | refine inR64_of ?_ ?_ | apply And.intro | refine maxLen_ge ?_)) <;> (first | omega | decide | (dsimp only; omega) | (dsimp only [List.length_cons, List.length_nil]; omega) | (intro hg; rw [hg]; rfl) | (intro hg hh; rw [hg, hh]; rfl) | (intro hg; simp [-List.getD_eq_getElem?_getD, -Int.default_eq_zero] at hg; first | omega | (refine inR64_of ?_ ?_ <;> omega) | (constructor <;> omega)) | (simp [-List.getD_eq_getElem?_getD, -Int.default_eq_zero]; done))
      all_goals repeat' (first | exact True.intro | refine leF_cons rfl ?_ ?_ | refine leS_cons rfl ?_ ?_ | (show PLe _ _ _ _; conv => whnf) | (show SLe _ _ _ _; conv => whnf) | (show PLeL _ _ _ _; conv => whnf) | apply And.intro | rfl | exact Nat.le_refl _ | exact fun _ _ => rfl | exact rowEq0 _ _)
      all_goals first | exact fun k hk => rfl | skip
  intro Y hY
  conv => whnf
  refine ⟨trivial, ?_⟩
  refine LSem.meet (n := 174) mix (α := List UInt8) (fun Z => Z.length = T.length)
    (fun Z => [(0, .sl 1 1 b.length (fl eB b)), (1, .str s), (4, .int .i64 y), (13, .os 800), (15, .str T), (17, .os 944), (18, .os 976)])
    (fun Z => [(800, .row 1 5 1 X.length (fl eB X)), (944, .row 1 5 1 Y.length (fl eB Y)), (976, .row 0 5 1 Z.length (fl eB Z))]) ?_ ?_
  · conv => whnf
    refine ⟨?_, fun hc => ?_, fun hc => ?_⟩
    · (try conv => whnf)
      (repeat' (first | exact True.intro | exact fun _ h => h | refine inR64_of ?_ ?_ | apply And.intro | refine maxLen_ge ?_)) <;> (first | omega | decide | (dsimp only; omega) | (dsimp only [List.length_cons, List.length_nil]; omega) | (intro hg; rw [hg]; rfl) | (intro hg hh; rw [hg, hh]; rfl) | (intro hg; simp [-List.getD_eq_getElem?_getD, -Int.default_eq_zero] at hg; first | omega | (refine inR64_of ?_ ?_ <;> omega) | (constructor <;> omega)) | (simp [-List.getD_eq_getElem?_getD, -Int.default_eq_zero]; done))
    · have hpos : 0 < T.length := by
        have h : (0 : Int) < T.length := of_decide_eq_true hc
        omega
      conv => whnf
      refine ⟨_, fun _ => call_mod p T.length (by omega) (by omega), ?_⟩
      obtain ⟨i, hi⟩ : ∃ i : Nat, (i : Int) = p % (T.length : Int) := ⟨(p % (T.length : Int)).toNat, by have := Int.emod_nonneg p (show (T.length : Int) ≠ 0 by omega); omega⟩
      have hil : i < T.length := by have := Int.emod_lt_of_pos p (show (0 : Int) < (T.length : Int) by omega); omega
      rw [← hi]
      have hj : ((i : Int)).toNat = i := by omega
      conv => whnf
      refine ⟨_, fun _ => call_mod y 15 (by decide) (by decide), ?_⟩
      have h15 : 0 ≤ y % 15 ∧ y % 15 < 15 := by omega
      generalize y % 15 = k at h15 ⊢
      conv => whnf
      rw [hj]
      have hse := set_eqB (X := T) (i := i) (y := okT.getD k.toNat 0)
      refine ⟨?_, T.set i (okT.getD k.toNat 0), ?_, rfl, rfl, ?_, ?_⟩
      · (try conv => whnf)
        (repeat' (first | exact True.intro | exact fun _ h => h | apply And.intro)) <;> (first | omega | (dsimp only [List.length_cons, List.length_nil]; omega) | (simp; omega))
      · exact List.length_set
      all_goals repeat' (first | exact True.intro | refine leF_cons rfl ?_ ?_ | refine leS_cons rfl ?_ ?_ | (show PLe _ _ _ _; conv => whnf) | (show SLe _ _ _ _; conv => whnf) | (show PLeL _ _ _ _; conv => whnf) | apply And.intro | rfl | exact Nat.le_refl _ | exact fun _ _ => rfl | exact rowEq0 _ _)
      all_goals first | exact hse | exact List.length_set.symm | exact fun k hk => rfl | skip
    · conv => whnf
      refine ⟨?_, T, rfl, rfl, rfl, ?_, ?_⟩
      · (try conv => whnf)
        (repeat' (first | exact True.intro | exact fun _ h => h | refine inR64_of ?_ ?_ | apply And.intro | refine maxLen_ge ?_)) <;> (first | omega | decide | (dsimp only; omega) | (dsimp only [List.length_cons, List.length_nil]; omega) | (intro hg; rw [hg]; rfl) | (intro hg hh; rw [hg, hh]; rfl) | (intro hg; simp [-List.getD_eq_getElem?_getD, -Int.default_eq_zero] at hg; first | omega | (refine inR64_of ?_ ?_ <;> omega) | (constructor <;> omega)) | (simp [-List.getD_eq_getElem?_getD, -Int.default_eq_zero]; done))
      all_goals repeat' (first | exact True.intro | refine leF_cons rfl ?_ ?_ | refine leS_cons rfl ?_ ?_ | (show PLe _ _ _ _; conv => whnf) | (show SLe _ _ _ _; conv => whnf) | (show PLeL _ _ _ _; conv => whnf) | apply And.intro | rfl | exact Nat.le_refl _ | exact fun _ _ => rfl | exact rowEq0 _ _)
      all_goals first | exact fun k hk => rfl | skip
  intro Z hZ
  conv => whnf
  refine ⟨_, fun _ => call_mod y 14 (by decide) (by decide), ?_⟩
  have h14 : 0 ≤ y % 14 ∧ y % 14 < 14 := by omega
  generalize y % 14 = q at h14 ⊢
  obtain ⟨h, hh⟩ : ∃ h : Nat, (h : Int) = (Y.length : Int) - (if q < (Y.length : Int) then q else (Y.length : Int)) := ⟨((Y.length : Int) - (if q < (Y.length : Int) then q else (Y.length : Int))).toNat, by split <;> omega⟩
  have hle : h ≤ Y.length := by split at hh <;> omega
  have htk : (Y.take h).length = h := by rw [List.length_take]; omega
  have hrow : RowEq h (fun i => fl eB Y (0 + i)) (fl eB (Y.take h)) := fun k hk => by
    have h2 := take_eq (e := eB) (l := Y) (n := h) hle k hk
    simp only [Nat.zero_add]
    exact h2
  conv => whnf
  rw [← hh, Int.toNat_natCast]
  refine ⟨?_, ?_⟩
  · (try conv => whnf)
    (repeat' (first | exact True.intro | exact fun _ h => h | refine inR64_of ?_ ?_ | apply And.intro | refine maxLen_ge ?_)) <;> (first | omega | decide | (dsimp only; omega) | (dsimp only [List.length_cons, List.length_nil]; omega) | (intro hg; rw [hg]; rfl) | (intro hg hh; rw [hg, hh]; rfl) | (intro hg; simp [-List.getD_eq_getElem?_getD, -Int.default_eq_zero] at hg; first | omega | (refine inR64_of ?_ ?_ <;> omega) | (constructor <;> omega)) | (simp [-List.getD_eq_getElem?_getD, -Int.default_eq_zero]; done))
  refine LSem.loop (n := 174) mix (α := Nat) (fun j => j ≤ 4)
    (fun j => [(1, .str s), (15, .str T), (18, .os 976), (98, .os 1568), (99, .int .i64 4), (100, .int .i64 j)])
    (fun j => [(976, .row 0 5 1 Z.length (fl eB Z)), (1568, .row 1 41 1 4 (fun k => [[.sl 1 1 b.length (fl eB b)], [.sl 1 1 X.length (fl eB X)], [.sl 1 1 Y.length (fl eB Y)], [.sl 1 1 h (fun i => fl eB Y (0 + i))]].getD k []))]) (fun j => 4 - j) 0 ?_ ?_ ?_
  · exact Nat.zero_le _
  · refine ⟨rfl, rfl, ?_, ?_⟩
    all_goals repeat' (first | exact True.intro | refine leF_cons rfl ?_ ?_ | refine leS_cons rfl ?_ ?_ | (show PLe _ _ _ _; conv => whnf) | (show SLe _ _ _ _; conv => whnf) | (show PLeL _ _ _ _; conv => whnf) | apply And.intro | rfl | exact Nat.le_refl _ | exact fun _ _ => rfl | exact rowEq0 _ _)
    all_goals first | exact fun _ _ => rfl | skip
  · intro j hj
    have h01234 : j = 0 ∨ j = 1 ∨ j = 2 ∨ j = 3 ∨ j = 4 := by omega
    rcases h01234 with rfl | rfl | rfl | rfl | rfl
    · conv => whnf
      refine ⟨trivial, fun hc => ?_, fun hc => (by cases hc)⟩
      conv => whnf
      refine ⟨_, fun _ => PureCall.arg_le (call18 2 (Nat.le_refl _) (b) (by first | omega | (rw [List.length_take]; omega))) rfl ⟨⟨by decide, rfl, rfl, fun _ _ => rfl⟩, trivial⟩, ?_⟩
      conv => whnf
      refine ⟨_, fun _ => PureCall.arg_le (call21 2 (Nat.le_refl _) (b) (by first | omega | (rw [List.length_take]; omega))) rfl ⟨⟨by decide, rfl, rfl, fun _ _ => rfl⟩, trivial⟩, ?_⟩
      have hdl := decF_len (b)
      generalize decF (b) = D at hdl ⊢
      conv => whnf
      refine ⟨_, fun _ => call15 (lendT 0) (lendT 0) D.1 D.1 (by omega), ?_⟩
      rw [decide_eq_true (p := D.1 = D.1) rfl]
      conv => whnf
      refine ⟨?_, fun hc => ?_, fun _ => ?_⟩
      · (repeat' (first | exact True.intro | exact fun _ => trivial | exact fun _ h => h | exact fun h => by rw [h]; rfl | (show (0 : Int) ≤ ((0 : Nat) : Int); decide) | (show (((0 : Nat) : Int)).toNat < 4; decide) | apply And.intro))
      · exfalso
        simp at hc
      conv => whnf
      refine ⟨?_, 1, ?_, ?_, rfl, rfl, ?_, ?_⟩
      · (try conv => whnf)
        (repeat' (first | exact True.intro | exact fun _ h => h | refine inR64_of ?_ ?_ | apply And.intro | refine maxLen_ge ?_)) <;> (first | omega | decide | (dsimp only; omega) | (dsimp only [List.length_cons, List.length_nil]; omega) | (intro hg; rw [hg]; rfl) | (intro hg hh; rw [hg, hh]; rfl) | (intro hg; simp [-List.getD_eq_getElem?_getD, -Int.default_eq_zero] at hg; first | omega | (refine inR64_of ?_ ?_ <;> omega) | (constructor <;> omega)) | (simp [-List.getD_eq_getElem?_getD, -Int.default_eq_zero]; done))
      · omega
      · omega
      all_goals repeat' (first | exact True.intro | refine leF_cons rfl ?_ ?_ | refine leS_cons rfl ?_ ?_ | (show PLe _ _ _ _; conv => whnf) | (show SLe _ _ _ _; conv => whnf) | (show PLeL _ _ _ _; conv => whnf) | apply And.intro | rfl | exact Nat.le_refl _ | exact fun _ _ => rfl | exact rowEq0 _ _)
      all_goals skip
    · conv => whnf
      refine ⟨trivial, fun hc => ?_, fun hc => (by cases hc)⟩
      conv => whnf
      refine ⟨_, fun _ => PureCall.arg_le (call18 2 (Nat.le_refl _) (X) (by first | omega | (rw [List.length_take]; omega))) rfl ⟨⟨by decide, rfl, rfl, fun _ _ => rfl⟩, trivial⟩, ?_⟩
      conv => whnf
      refine ⟨_, fun _ => PureCall.arg_le (call21 2 (Nat.le_refl _) (X) (by first | omega | (rw [List.length_take]; omega))) rfl ⟨⟨by decide, rfl, rfl, fun _ _ => rfl⟩, trivial⟩, ?_⟩
      have hdl := decF_len (X)
      generalize decF (X) = D at hdl ⊢
      conv => whnf
      refine ⟨_, fun _ => call15 (lendT 0) (lendT 0) D.1 D.1 (by omega), ?_⟩
      rw [decide_eq_true (p := D.1 = D.1) rfl]
      conv => whnf
      refine ⟨?_, fun hc => ?_, fun _ => ?_⟩
      · (repeat' (first | exact True.intro | exact fun _ => trivial | exact fun _ h => h | exact fun h => by rw [h]; rfl | (show (0 : Int) ≤ ((1 : Nat) : Int); decide) | (show (((1 : Nat) : Int)).toNat < 4; decide) | apply And.intro))
      · exfalso
        simp at hc
      conv => whnf
      refine ⟨?_, 2, ?_, ?_, rfl, rfl, ?_, ?_⟩
      · (try conv => whnf)
        (repeat' (first | exact True.intro | exact fun _ h => h | refine inR64_of ?_ ?_ | apply And.intro | refine maxLen_ge ?_)) <;> (first | omega | decide | (dsimp only; omega) | (dsimp only [List.length_cons, List.length_nil]; omega) | (intro hg; rw [hg]; rfl) | (intro hg hh; rw [hg, hh]; rfl) | (intro hg; simp [-List.getD_eq_getElem?_getD, -Int.default_eq_zero] at hg; first | omega | (refine inR64_of ?_ ?_ <;> omega) | (constructor <;> omega)) | (simp [-List.getD_eq_getElem?_getD, -Int.default_eq_zero]; done))
      · omega
      · omega
      all_goals repeat' (first | exact True.intro | refine leF_cons rfl ?_ ?_ | refine leS_cons rfl ?_ ?_ | (show PLe _ _ _ _; conv => whnf) | (show SLe _ _ _ _; conv => whnf) | (show PLeL _ _ _ _; conv => whnf) | apply And.intro | rfl | exact Nat.le_refl _ | exact fun _ _ => rfl | exact rowEq0 _ _)
      all_goals skip
    · conv => whnf
      refine ⟨trivial, fun hc => ?_, fun hc => (by cases hc)⟩
      conv => whnf
      refine ⟨_, fun _ => PureCall.arg_le (call18 2 (Nat.le_refl _) (Y) (by first | omega | (rw [List.length_take]; omega))) rfl ⟨⟨by decide, rfl, rfl, fun _ _ => rfl⟩, trivial⟩, ?_⟩
      conv => whnf
      refine ⟨_, fun _ => PureCall.arg_le (call21 2 (Nat.le_refl _) (Y) (by first | omega | (rw [List.length_take]; omega))) rfl ⟨⟨by decide, rfl, rfl, fun _ _ => rfl⟩, trivial⟩, ?_⟩
      have hdl := decF_len (Y)
      generalize decF (Y) = D at hdl ⊢
      conv => whnf
      refine ⟨_, fun _ => call15 (lendT 0) (lendT 0) D.1 D.1 (by omega), ?_⟩
      rw [decide_eq_true (p := D.1 = D.1) rfl]
      conv => whnf
      refine ⟨?_, fun hc => ?_, fun _ => ?_⟩
      · (repeat' (first | exact True.intro | exact fun _ => trivial | exact fun _ h => h | exact fun h => by rw [h]; rfl | (show (0 : Int) ≤ ((2 : Nat) : Int); decide) | (show (((2 : Nat) : Int)).toNat < 4; decide) | apply And.intro))
      · exfalso
        simp at hc
      conv => whnf
      refine ⟨?_, 3, ?_, ?_, rfl, rfl, ?_, ?_⟩
      · (try conv => whnf)
        (repeat' (first | exact True.intro | exact fun _ h => h | refine inR64_of ?_ ?_ | apply And.intro | refine maxLen_ge ?_)) <;> (first | omega | decide | (dsimp only; omega) | (dsimp only [List.length_cons, List.length_nil]; omega) | (intro hg; rw [hg]; rfl) | (intro hg hh; rw [hg, hh]; rfl) | (intro hg; simp [-List.getD_eq_getElem?_getD, -Int.default_eq_zero] at hg; first | omega | (refine inR64_of ?_ ?_ <;> omega) | (constructor <;> omega)) | (simp [-List.getD_eq_getElem?_getD, -Int.default_eq_zero]; done))
      · omega
      · omega
      all_goals repeat' (first | exact True.intro | refine leF_cons rfl ?_ ?_ | refine leS_cons rfl ?_ ?_ | (show PLe _ _ _ _; conv => whnf) | (show SLe _ _ _ _; conv => whnf) | (show PLeL _ _ _ _; conv => whnf) | apply And.intro | rfl | exact Nat.le_refl _ | exact fun _ _ => rfl | exact rowEq0 _ _)
      all_goals skip
    · conv => whnf
      refine ⟨trivial, fun hc => ?_, fun hc => (by cases hc)⟩
      conv => whnf
      refine ⟨_, fun _ => PureCall.arg_le (call18 2 (Nat.le_refl _) (Y.take h) (by first | omega | (rw [List.length_take]; omega))) rfl ⟨⟨by decide, rfl, htk.symm, hrow⟩, trivial⟩, ?_⟩
      conv => whnf
      refine ⟨_, fun _ => PureCall.arg_le (call21 2 (Nat.le_refl _) (Y.take h) (by first | omega | (rw [List.length_take]; omega))) rfl ⟨⟨by decide, rfl, htk.symm, hrow⟩, trivial⟩, ?_⟩
      have hdl := decF_len (Y.take h)
      generalize decF (Y.take h) = D at hdl ⊢
      conv => whnf
      refine ⟨_, fun _ => call15 (lendT 0) (lendT 0) D.1 D.1 (by omega), ?_⟩
      rw [decide_eq_true (p := D.1 = D.1) rfl]
      conv => whnf
      refine ⟨?_, fun hc => ?_, fun _ => ?_⟩
      · (repeat' (first | exact True.intro | exact fun _ => trivial | exact fun _ h => h | exact fun h => by rw [h]; rfl | (show (0 : Int) ≤ ((3 : Nat) : Int); decide) | (show (((3 : Nat) : Int)).toNat < 4; decide) | apply And.intro))
      · exfalso
        simp at hc
      conv => whnf
      refine ⟨?_, 4, ?_, ?_, rfl, rfl, ?_, ?_⟩
      · (try conv => whnf)
        (repeat' (first | exact True.intro | exact fun _ h => h | refine inR64_of ?_ ?_ | apply And.intro | refine maxLen_ge ?_)) <;> (first | omega | decide | (dsimp only; omega) | (dsimp only [List.length_cons, List.length_nil]; omega) | (intro hg; rw [hg]; rfl) | (intro hg hh; rw [hg, hh]; rfl) | (intro hg; simp [-List.getD_eq_getElem?_getD, -Int.default_eq_zero] at hg; first | omega | (refine inR64_of ?_ ?_ <;> omega) | (constructor <;> omega)) | (simp [-List.getD_eq_getElem?_getD, -Int.default_eq_zero]; done))
      · omega
      · omega
      all_goals repeat' (first | exact True.intro | refine leF_cons rfl ?_ ?_ | refine leS_cons rfl ?_ ?_ | (show PLe _ _ _ _; conv => whnf) | (show SLe _ _ _ _; conv => whnf) | (show PLeL _ _ _ _; conv => whnf) | apply And.intro | rfl | exact Nat.le_refl _ | exact fun _ _ => rfl | exact rowEq0 _ _)
      all_goals skip
    · conv => whnf
      refine ⟨trivial, fun hc => (by cases hc), fun hc => ?_⟩
      conv => whnf
      rw [strOf_f6]
      refine ⟨?_, ?_⟩
      · (try conv => whnf)
        (repeat' (first | exact True.intro | exact fun _ h => h | exact areBytes_f6 _ | apply And.intro)) <;> (first | omega | (simp only [List.length_append, List.length_cons, List.length_nil]; omega) | (dsimp only; omega))
        all_goals trace_state
      obtain ⟨V, hV⟩ : ∃ V, V = [32] ++ T ++ [10, 32, 32, 32, 10] ++ T := ⟨_, rfl⟩
      have lV : V.length ≤ 2000 := by rw [hV]; simp only [List.length_append, List.length_cons, List.length_nil]; omega
      refine LSem.loop (n := 174) mix (α := Nat) (fun j => j ≤ 4)
        (fun j => [(140, .os 2240), (141, .int .i64 4), (142, .int .i64 j)])
        (fun j => [(2240, .row 0 9 1 4 (fun k => [[.str s], [.str T], [.str Z], [.str V]].getD k []))]) (fun j => 4 - j) 0 ?_ ?_ ?_
      · exact Nat.zero_le _
      · rw [hV]
        refine ⟨rfl, rfl, ?_, ?_⟩
        all_goals repeat' (first | exact True.intro | refine leF_cons rfl ?_ ?_ | refine leS_cons rfl ?_ ?_ | (show PLe _ _ _ _; conv => whnf) | (show SLe _ _ _ _; conv => whnf) | (show PLeL _ _ _ _; conv => whnf) | apply And.intro | rfl | exact Nat.le_refl _ | exact fun _ _ => rfl | exact rowEq0 _ _)
        all_goals first | exact fun _ _ => rfl | skip
      · intro j hj
        have h01234 : j = 0 ∨ j = 1 ∨ j = 2 ∨ j = 3 ∨ j = 4 := by omega
        rcases h01234 with rfl | rfl | rfl | rfl | rfl
        · conv => whnf
          refine ⟨trivial, fun hc => ?_, fun hc => (by cases hc)⟩
          conv => whnf
          refine ⟨_, fun _ => call22 (s) (by omega), ?_⟩
          conv => whnf
          refine ⟨_, fun _ => call23 (s) (by omega), ?_⟩
          have hdl := parseF_len (s)
          generalize parseF (s) = D at hdl ⊢
          conv => whnf
          refine ⟨_, fun _ => call15 (lendT 0) (lendT 0) D.1 D.1 (by omega), ?_⟩
          rw [decide_eq_true (p := D.1 = D.1) rfl]
          conv => whnf
          refine ⟨?_, fun hc => ?_, fun _ => ?_⟩
          · (repeat' (first | exact True.intro | exact fun _ => trivial | exact fun _ h => h | exact fun h => by rw [h]; rfl | (show (0 : Int) ≤ ((0 : Nat) : Int); decide) | (show (((0 : Nat) : Int)).toNat < 4; decide) | apply And.intro))
          · exfalso
            simp at hc
          conv => whnf
          refine ⟨?_, 1, ?_, ?_, rfl, rfl, ?_, ?_⟩
          · (try conv => whnf)
            (repeat' (first | exact True.intro | exact fun _ h => h | refine inR64_of ?_ ?_ | apply And.intro | refine maxLen_ge ?_)) <;> (first | omega | decide | (dsimp only; omega) | (dsimp only [List.length_cons, List.length_nil]; omega) | (intro hg; rw [hg]; rfl) | (intro hg hh; rw [hg, hh]; rfl) | (intro hg; simp [-List.getD_eq_getElem?_getD, -Int.default_eq_zero] at hg; first | omega | (refine inR64_of ?_ ?_ <;> omega) | (constructor <;> omega)) | (simp [-List.getD_eq_getElem?_getD, -Int.default_eq_zero]; done))
          · omega
          · omega
          all_goals repeat' (first | exact True.intro | refine leF_cons rfl ?_ ?_ | refine leS_cons rfl ?_ ?_ | (show PLe _ _ _ _; conv => whnf) | (show SLe _ _ _ _; conv => whnf) | (show PLeL _ _ _ _; conv => whnf) | apply And.intro | rfl | exact Nat.le_refl _ | exact fun _ _ => rfl | exact rowEq0 _ _)
          all_goals skip
        · conv => whnf
          refine ⟨trivial, fun hc => ?_, fun hc => (by cases hc)⟩
          conv => whnf
          refine ⟨_, fun _ => call22 (T) (by omega), ?_⟩
          conv => whnf
          refine ⟨_, fun _ => call23 (T) (by omega), ?_⟩
          have hdl := parseF_len (T)
          generalize parseF (T) = D at hdl ⊢
          conv => whnf
          refine ⟨_, fun _ => call15 (lendT 0) (lendT 0) D.1 D.1 (by omega), ?_⟩
          rw [decide_eq_true (p := D.1 = D.1) rfl]
          conv => whnf
          refine ⟨?_, fun hc => ?_, fun _ => ?_⟩
          · (repeat' (first | exact True.intro | exact fun _ => trivial | exact fun _ h => h | exact fun h => by rw [h]; rfl | (show (0 : Int) ≤ ((1 : Nat) : Int); decide) | (show (((1 : Nat) : Int)).toNat < 4; decide) | apply And.intro))
          · exfalso
            simp at hc
          conv => whnf
          refine ⟨?_, 2, ?_, ?_, rfl, rfl, ?_, ?_⟩
          · (try conv => whnf)
            (repeat' (first | exact True.intro | exact fun _ h => h | refine inR64_of ?_ ?_ | apply And.intro | refine maxLen_ge ?_)) <;> (first | omega | decide | (dsimp only; omega) | (dsimp only [List.length_cons, List.length_nil]; omega) | (intro hg; rw [hg]; rfl) | (intro hg hh; rw [hg, hh]; rfl) | (intro hg; simp [-List.getD_eq_getElem?_getD, -Int.default_eq_zero] at hg; first | omega | (refine inR64_of ?_ ?_ <;> omega) | (constructor <;> omega)) | (simp [-List.getD_eq_getElem?_getD, -Int.default_eq_zero]; done))
          · omega
          · omega
          all_goals repeat' (first | exact True.intro | refine leF_cons rfl ?_ ?_ | refine leS_cons rfl ?_ ?_ | (show PLe _ _ _ _; conv => whnf) | (show SLe _ _ _ _; conv => whnf) | (show PLeL _ _ _ _; conv => whnf) | apply And.intro | rfl | exact Nat.le_refl _ | exact fun _ _ => rfl | exact rowEq0 _ _)
          all_goals skip
        · conv => whnf
          refine ⟨trivial, fun hc => ?_, fun hc => (by cases hc)⟩
          conv => whnf
          refine ⟨_, fun _ => call22 (Z) (by omega), ?_⟩
          conv => whnf
          refine ⟨_, fun _ => call23 (Z) (by omega), ?_⟩
          have hdl := parseF_len (Z)
          generalize parseF (Z) = D at hdl ⊢
          conv => whnf
          refine ⟨_, fun _ => call15 (lendT 0) (lendT 0) D.1 D.1 (by omega), ?_⟩
          rw [decide_eq_true (p := D.1 = D.1) rfl]
          conv => whnf
          refine ⟨?_, fun hc => ?_, fun _ => ?_⟩
          · (repeat' (first | exact True.intro | exact fun _ => trivial | exact fun _ h => h | exact fun h => by rw [h]; rfl | (show (0 : Int) ≤ ((2 : Nat) : Int); decide) | (show (((2 : Nat) : Int)).toNat < 4; decide) | apply And.intro))
          · exfalso
            simp at hc
          conv => whnf
          refine ⟨?_, 3, ?_, ?_, rfl, rfl, ?_, ?_⟩
          · (try conv => whnf)
            (repeat' (first | exact True.intro | exact fun _ h => h | refine inR64_of ?_ ?_ | apply And.intro | refine maxLen_ge ?_)) <;> (first | omega | decide | (dsimp only; omega) | (dsimp only [List.length_cons, List.length_nil]; omega) | (intro hg; rw [hg]; rfl) | (intro hg hh; rw [hg, hh]; rfl) | (intro hg; simp [-List.getD_eq_getElem?_getD, -Int.default_eq_zero] at hg; first | omega | (refine inR64_of ?_ ?_ <;> omega) | (constructor <;> omega)) | (simp [-List.getD_eq_getElem?_getD, -Int.default_eq_zero]; done))
          · omega
          · omega
          all_goals repeat' (first | exact True.intro | refine leF_cons rfl ?_ ?_ | refine leS_cons rfl ?_ ?_ | (show PLe _ _ _ _; conv => whnf) | (show SLe _ _ _ _; conv => whnf) | (show PLeL _ _ _ _; conv => whnf) | apply And.intro | rfl | exact Nat.le_refl _ | exact fun _ _ => rfl | exact rowEq0 _ _)
          all_goals skip
        · conv => whnf
          refine ⟨trivial, fun hc => ?_, fun hc => (by cases hc)⟩
          conv => whnf
          refine ⟨_, fun _ => call22 (V) (by omega), ?_⟩
          conv => whnf
          refine ⟨_, fun _ => call23 (V) (by omega), ?_⟩
          have hdl := parseF_len (V)
          generalize parseF (V) = D at hdl ⊢
          conv => whnf
          refine ⟨_, fun _ => call15 (lendT 0) (lendT 0) D.1 D.1 (by omega), ?_⟩
          rw [decide_eq_true (p := D.1 = D.1) rfl]
          conv => whnf
          refine ⟨?_, fun hc => ?_, fun _ => ?_⟩
          · (repeat' (first | exact True.intro | exact fun _ => trivial | exact fun _ h => h | exact fun h => by rw [h]; rfl | (show (0 : Int) ≤ ((3 : Nat) : Int); decide) | (show (((3 : Nat) : Int)).toNat < 4; decide) | apply And.intro))
          · exfalso
            simp at hc
          conv => whnf
          refine ⟨?_, 4, ?_, ?_, rfl, rfl, ?_, ?_⟩
          · (try conv => whnf)
            (repeat' (first | exact True.intro | exact fun _ h => h | refine inR64_of ?_ ?_ | apply And.intro | refine maxLen_ge ?_)) <;> (first | omega | decide | (dsimp only; omega) | (dsimp only [List.length_cons, List.length_nil]; omega) | (intro hg; rw [hg]; rfl) | (intro hg hh; rw [hg, hh]; rfl) | (intro hg; simp [-List.getD_eq_getElem?_getD, -Int.default_eq_zero] at hg; first | omega | (refine inR64_of ?_ ?_ <;> omega) | (constructor <;> omega)) | (simp [-List.getD_eq_getElem?_getD, -Int.default_eq_zero]; done))
          · omega
          · omega
          all_goals repeat' (first | exact True.intro | refine leF_cons rfl ?_ ?_ | refine leS_cons rfl ?_ ?_ | (show PLe _ _ _ _; conv => whnf) | (show SLe _ _ _ _; conv => whnf) | (show PLeL _ _ _ _; conv => whnf) | apply And.intro | rfl | exact Nat.le_refl _ | exact fun _ _ => rfl | exact rowEq0 _ _)
          all_goals skip
        · conv => whnf
          refine ⟨trivial, fun hc => (by cases hc), fun hc => ?_⟩
          conv => whnf
          refine ⟨_, fun _ => call9, ?_⟩
          conv => whnf
          refine ⟨?_, [], ?_⟩
          · (try conv => whnf)
            (repeat' (first | exact True.intro | exact fun _ h => h | refine inR64_of ?_ ?_ | apply And.intro | refine maxLen_ge ?_)) <;> (first | omega | decide | (dsimp only; omega) | (dsimp only [List.length_cons, List.length_nil]; omega) | (intro hg; rw [hg]; rfl) | (intro hg hh; rw [hg, hh]; rfl) | (intro hg; simp [-List.getD_eq_getElem?_getD, -Int.default_eq_zero] at hg; first | omega | (refine inR64_of ?_ ?_ <;> omega) | (constructor <;> omega)) | (simp [-List.getD_eq_getElem?_getD, -Int.default_eq_zero]; done))
          conv => whnf
          refine ⟨rfl, ?_, trivial, trivial⟩
          all_goals repeat' (first | exact True.intro | refine leF_cons rfl ?_ ?_ | refine leS_cons rfl ?_ ?_ | (show PLe _ _ _ _; conv => whnf) | (show SLe _ _ _ _; conv => whnf) | (show PLeL _ _ _ _; conv => whnf) | apply And.intro | rfl | exact Nat.le_refl _ | exact fun _ _ => rfl | exact rowEq0 _ _)
end Pv
end Go.Proofs.YtgbknfbcjddnhaaDoor

/- ARGUMENTS AS THEY COME IN: what a readable argument stands for. -/
set_option linter.unusedSimpArgs false
set_option linter.unusedVariables false
namespace Go.Proofs.YtgbknfbcjddnhaaDoor
namespace Pv
open Go.RowKit Go.ChangeShapes

/-- The shape of a cell. -/
inductive Sh where
  | int (k : IntKind)
  | bool
  | str
  | sl (shs : List Sh)
  deriving Inhabited

inductive ShR : Sh → PV → Prop where
  | int (k : IntKind) (n : Int) (h : inR k n) : ShR (.int k) (.int k n)
  | bool (b : Bool) : ShR .bool (.bool b)
  | str (s : List UInt8) (h : s.length ≤ maxLen) : ShR .str (.str s)
  | sl (shs : List Sh) (n : Nat) (f : Nat → List PV) (hn : n ≤ maxLen) (h1 : ∀ i, i < n → (f i).length = shs.length)
      (h2 : ∀ (i j : Nat) (s : Sh) (p : PV), i < n → shs[j]? = some s → (f i)[j]? = some p → ShR s p) : ShR (.sl shs) (.sl 1 shs.length n f)

def ShL (shs : List Sh) (ps : List PV) : Prop := ps.length = shs.length ∧ ∀ (j : Nat) (s : Sh) (p : PV), shs[j]? = some s → ps[j]? = some p → ShR s p

/-- The fields of a struct, one behind the other. -/
def fieldSh (sh : TypeId → Option (List Sh)) (P : Program) : Nat → List Field → Option (List Sh)
  | _, [] => some []
  | off, f :: fs => if f.offset = off then match sh f.type with
      | some s => if s.length = P.cellsOf f.type then match fieldSh sh P (off + s.length) fs with
          | some r => some (s ++ r)
          | none => none
        else none
      | none => none
    else none

/-- The shapes of a type's cells. -/
def shp (P : Program) : Nat → TypeId → Option (List Sh)
  | 0, _ => none
  | m + 1, t => match P.underlying t with
    | some .bool => some [.bool]
    | some (.int k) => some [.int k]
    | some .string => some [.str]
    | some (.slice e) => match shp P m e with
      | some s => if s.length = P.cellsOf e ∧ 0 < s.length then some [.sl s] else none
      | none => none
    | some (.struct fs) => match fieldSh (shp P m) P 0 fs.toList with
      | some s => if s.length = P.cellsOf t then some s else none
      | none => none
    | _ => none

theorem ShR.flat {s : Sh} {p : PV} (h : ShR s p) : p.flat = true := by cases h <;> rfl
theorem ShR.mark1 {s : Sh} {p : PV} (h : ShR s p) : p.mark 1 = p := by cases h <;> rfl

theorem ShL.append {a b : List Sh} {x y : List PV} (h : ShL a x) (h' : ShL b y) : ShL (a ++ b) (x ++ y) := by
  refine ⟨by simp [h.1, h'.1], fun j s p hs hp => ?_⟩
  rw [List.getElem?_append] at hs hp
  rw [h.1] at hp
  split at hs
  · rename_i hj; rw [if_pos hj] at hp; exact h.2 j s p hs hp
  · rename_i hj; rw [if_neg hj] at hp; exact h'.2 _ s p hs hp

section
variable {H : Type} {enc : TypeId × Value → H} {P : Program} {w : World} {sp : Nat → Bool} {held : Bool} {X : Cx} {γ : Gh}

theorem trod_fields {m n : Nat} {cs : List Value} {xs : List (DataW H × List MemPlace)}
    (ih : ∀ (t : TypeId) (cs : List Value) (x : DataW H × List MemPlace) (shs : List Sh), shp P m t = some shs → DataW.trod enc P w 0 sp held n t cs = some x → ∃ ps, ShL shs ps ∧ RepL X γ w ps cs ∧ ∀ u ∈ cs, u.oneCell' = true) :
    ∀ (fs : List Field) (off k : Nat) (shs : List Sh), fieldSh (shp P m) P off fs = some shs → off + shs.length = cs.length → (∀ i f, fs[i]? = some f → DataW.trod enc P w 0 sp held n f.type ((cs.drop f.offset).take (P.cellsOf f.type)) = xs[k + i]?) → k + fs.length = xs.length →
      ∃ ps, ShL shs ps ∧ RepL X γ w ps (cs.drop off) ∧ ∀ u ∈ cs.drop off, u.oneCell' = true
  | [], off, k, shs, h, hl, hx, hk => by
    simp only [fieldSh, Option.some.injEq] at h; subst h
    have e : cs.drop off = [] := List.drop_eq_nil_of_le (by simpa using hl.symm ▸ Nat.le_refl _)
    rw [e]
    exact ⟨[], ⟨rfl, fun j s p hs => by simp at hs⟩, RepL.nil_, by simp⟩
  | f :: fs, off, k, shs, h, hl, hx, hk => by
    simp only [fieldSh] at h
    split at h
    · rename_i hoff
      split at h
      · rename_i s hs
        split at h
        · rename_i hsl
          split at h
          · rename_i r hr
            injection h with h; subst h
            simp only [List.length_append] at hl
            obtain ⟨ps', h1, h2, h3⟩ := trod_fields (cs := cs) ih fs (off + s.length) (k + 1) r hr (by omega) (fun i f' hf => by
              have := hx (i + 1) f' (by simpa using hf)
              rw [show k + (i + 1) = k + 1 + i from by omega] at this; exact this) (by simp only [List.length_cons] at hk; omega)
            have h0 := hx 0 f rfl
            have hk0 : k + 0 < xs.length := by simp only [List.length_cons] at hk; omega
            rw [List.getElem?_eq_getElem hk0] at h0
            obtain ⟨ps, g1, g2, g3⟩ := ih _ _ _ _ hs h0
            rw [hoff, ← hsl] at g2 g3
            have e : cs.drop off = (cs.drop off).take s.length ++ cs.drop (off + s.length) := by
              rw [← List.drop_drop, List.take_append_drop]
            refine ⟨ps ++ ps', g1.append h1, ?_, ?_⟩
            · rw [e]; exact g2.append h2
            · rw [e]
              intro u hu
              rcases List.mem_append.1 hu with hu | hu
              · exact g3 u hu
              · exact h3 u hu
          · cases h
        · cases h
      · cases h
    · cases h

theorem trod_rep (hX : ∀ b, b < w.heap.size → mayLie X γ 1 b) : ∀ (m fuel : Nat) (t : TypeId) (cs : List Value) (x : DataW H × List MemPlace) (shs : List Sh), shp P m t = some shs → DataW.trod enc P w 0 sp held fuel t cs = some x →
    ∃ ps, ShL shs ps ∧ RepL X γ w ps cs ∧ ∀ u ∈ cs, u.oneCell' = true := by
  have one : ∀ (s : Sh) (p : PV) (v : Value), ShR s p → Rep X γ w p v → v.oneCell' = true → ∃ ps, ShL [s] ps ∧ RepL X γ w ps [v] ∧ ∀ u ∈ [v], u.oneCell' = true := fun s p v h1 h2 h3 =>
    ⟨[p], ⟨rfl, fun j s' p' hs hp => by
      cases j with
      | zero => simp only [List.getElem?_cons_zero, Option.some.injEq] at hs hp; subst hs; subst hp; exact h1
      | succ j => simp at hs⟩, RepL.cons_ h2 RepL.nil_, by simpa using h3⟩
  intro m
  induction m with
  | zero => intro fuel t cs x shs h; simp [shp] at h
  | succ m ih =>
    intro fuel t cs x shs h hd
    simp only [shp] at h
    split at h
    · rename_i ht
      injection h with h; subst h
      obtain ⟨b, rfl, _⟩ := DataW.trod_bool ht hd
      exact one _ _ _ (.bool b) (.bool b) rfl
    · rename_i k ht
      injection h with h; subst h
      obtain ⟨n, rfl, _, hw⟩ := DataW.trod_int ht hd
      simp only [Lit.wf, Bool.and_eq_true, decide_eq_true_eq] at hw
      exact one _ _ _ (.int k n hw) (.int k n) rfl
    · rename_i ht
      injection h with h; subst h
      obtain ⟨s, rfl, _, hw⟩ := DataW.trod_string ht hd
      have e : s = ⟨s.data.toList.toArray⟩ := by cases s; simp
      refine one _ (.str s.data.toList) _ (.str _ (by rw [Array.length_toList]; exact hw)) ?_ rfl
      have := Rep.str (X := X) (γ := γ) (w := w) s.data.toList
      rwa [← e] at this
    · rename_i e ht
      split at h
      · rename_i s hs
        split at h
        · rename_i hc
          obtain ⟨hsl, hpos⟩ := hc
          injection h with h; subst h
          rcases DataW.trod_slice ht hd with ⟨rfl, _⟩ | ⟨a, len, cap, elems, rest, n, hf, rfl, _, hb, hlc, hcm, hel, helem, _, _⟩
          · refine one _ (.sl 1 s.length 0 (fun _ => [])) _ (.sl s 0 _ (Nat.zero_le _) (fun i hi => by omega) (fun i j s p hi => by omega)) ?_ rfl
            exact .sl 1 _ 0 _ none 0 (fun _ => undef) (Nat.le_refl _) (fun i hi => by omega) (fun i hi => by omega) (fun hi => by omega) (fun i j c hi => by omega)
          · have hex : ∀ i, ∃ ps, i < len → ShL s ps ∧ ∃ cs', w.cells? 0 (a.add (i * P.cellsOf e)) (P.cellsOf e) = some cs' ∧ RepL X γ w ps cs' := fun i => by
              by_cases hi : i < len
              · have h1 := helem i hi
                rw [List.getElem?_eq_getElem (by omega)] at h1
                obtain ⟨cs', h2, h3⟩ := Option.bind_eq_some_iff.1 h1
                obtain ⟨ps, g1, g2, _⟩ := ih _ _ _ _ _ hs h3
                exact ⟨ps, fun _ => ⟨g1, cs', h2, g2⟩⟩
              · exact ⟨[], fun h => absurd h hi⟩
            let f : Nat → List PV := fun i => Classical.choose (hex i)
            have hf' : ∀ i, i < len → ShL s (f i) ∧ ∃ cs', w.cells? 0 (a.add (i * P.cellsOf e)) (P.cellsOf e) = some cs' ∧ RepL X γ w (f i) cs' := fun i => Classical.choose_spec (hex i)
            have hcell : ∀ i j, i < len → j < s.length → ∃ u p, w.cell? (a.add (i * s.length + j)) = some u ∧ (f i)[j]? = some p ∧ Rep X γ w p u := fun i j hi hj => by
              obtain ⟨g1, cs', g2, g3⟩ := hf' i hi
              obtain ⟨_, k2, k3⟩ := World.cells?_some g2
              have hj' : j < cs'.length := by rw [k2, ← hsl]; exact hj
              have hk := k3 j (by rw [← hsl]; exact hj)
              rw [List.getElem?_eq_getElem hj', add_add_, ← hsl] at hk
              have hpj : j < (f i).length := by rw [g1.1]; exact hj
              exact ⟨_, _, hk, List.getElem?_eq_getElem hpj, g3.2 j _ _ (List.getElem?_eq_getElem hpj) (List.getElem?_eq_getElem hj')⟩
            refine one _ (.sl 1 s.length len f) _ (.sl s len f (Nat.le_trans hlc hcm) (fun i hi => (hf' i hi).1.1) (fun i j s' p hi hs' hp => (hf' i hi).1.2 j s' p hs' hp)) ?_ rfl
            have hsh : ∀ i, i < len → ∀ c ∈ f i, ∃ s', ShR s' c := fun i hi c hc => by
              obtain ⟨j, hj⟩ := List.getElem?_of_mem hc
              have hlt := (List.getElem?_eq_some_iff.1 hj).1
              have hlt2 : j < s.length := by rw [← (hf' i hi).1.1]; exact hlt
              exact ⟨_, (hf' i hi).1.2 j _ _ (List.getElem?_eq_getElem hlt2) hj⟩
            refine .sl 1 s.length len f (some a) cap (fun k => (w.cell? (a.add k)).getD undef) hlc (fun i hi => (hf' i hi).1.1) (fun i hi c hc => by obtain ⟨s', h⟩ := hsh i hi c hc; exact h.flat) (fun hn => ?_) (fun i j c hi hc => ?_)
            · obtain ⟨u, p, h1, _, _⟩ := hcell 0 0 hn hpos
              have hblk : a.block < w.heap.size := by
                obtain ⟨_, cs', g2, _⟩ := hf' 0 hn
                have := World.cells?_block g2 (by omega)
                have e : (a.add (0 * P.cellsOf e)).block = a.block := by unfold Addr.add; split <;> rfl
                rwa [e] at this
              refine ⟨a, rfl, hX _ hblk, hblk, fun k hk => ?_⟩
              have hk1 : k / s.length < len := by rw [Nat.div_lt_iff_lt_mul hpos]; exact hk
              obtain ⟨u, p, h1, _, _⟩ := hcell (k / s.length) (k % s.length) hk1 (Nat.mod_lt _ hpos)
              rw [Nat.mul_comm, Nat.div_add_mod] at h1
              rw [h1]; rfl
            · have hj : j < s.length := by rw [← (hf' i hi).1.1]; exact (List.getElem?_eq_some_iff.1 hc).1
              obtain ⟨u, p, h1, h2, h3⟩ := hcell i j hi hj
              rw [h2] at hc; injection hc with hc; subst hc
              obtain ⟨s', h⟩ := hsh i hi p (List.mem_of_getElem? h2)
              rw [h.mark1, h1]; exact h3
        · cases h
      · cases h
    · rename_i fs ht
      split at h
      · rename_i s hs
        split at h
        · rename_i hsl
          injection h with h; subst h
          obtain ⟨xs, n, rfl, _, hcl, hxl, hx⟩ := DataW.trod_struct ht hd
          obtain ⟨ps, h1, h2, h3⟩ := trod_fields (cs := cs) (xs := xs) (ih n) fs.toList 0 0 s hs (by omega) (fun i f hf => by rw [Nat.zero_add]; exact hx i f (by simpa using hf)) (by simpa using hxl.symm)
          exact ⟨ps, h1, by simpa using h2, by simpa using h3⟩
        · cases h
      · cases h
    · cases h
end
end Pv
end Go.Proofs.YtgbknfbcjddnhaaDoor

/- A LAW's ROW, FROM ITS FUNCTION's CONTRACT. -/
set_option linter.unusedSimpArgs false
set_option linter.unusedVariables false
namespace Go.Proofs.YtgbknfbcjddnhaaDoor
namespace Pv
open Go.RowKit Go.ChangeShapes

section
variable {H : Type} {enc : TypeId × Value → H} {P : Program} {w : World} {sp : Nat → Bool} {held : Bool}

/-- How a law sees the world that it is called in: all that is there stays. -/
def cx0 (w : World) : Cx := ⟨w.heap.size, fun b => b < w.heap.size, fun _ => False, 0, fun _ => none⟩
def gh0 : Gh := fun _ => none
theorem gh0_own (b : Nat) : ¬ gh0.own b := by rintro ⟨r, ge, h, _⟩; cases h
theorem lie0 (b : Nat) (hb : b < w.heap.size) : mayLie (cx0 w) gh0 1 b := ⟨gh0_own b, .inr (.inl ⟨Nat.le_refl _, hb⟩)⟩
/-- The package variables that are known hold what is known of them. -/
def GlobOK (w : World) : Prop := ∀ b p, glob b = some p → ∃ o, w.heap[b]? = some o ∧ p o
theorem globOK_none (h : ∀ b, glob b = none) : GlobOK w := fun b p hb => by rw [h b] at hb; cases hb
theorem st0 (hgl : GlobOK w) : RepSt (cx0 w) gh0 w (fun r => ([] : List SE)[r]?) :=
  ⟨fun r => by simp [gh0], fun r ge e h => (by cases h), fun r r' ge ge' b h => (by cases h), fun b hb => absurd hb (gh0_own b), fun b hb => absurd hb (gh0_own b), fun b p hb => ⟨hgl b p hb, gh0_own b, by
    obtain ⟨o, h1, _⟩ := hgl b p hb
    exact (Array.getElem?_eq_some_iff.1 h1).1⟩⟩

theorem law_calls (hgl : GlobOK w) {f : FuncId} {args : List PV} {vals : List Value} (h : PureCall P f args [] ⟨.bool true, [], []⟩) (hr : RepL (cx0 w) gh0 w args vals) :
    Calls P f vals.toArray w fun e w' => e = .returned (.bool true) ∧ Below w.heap.size w w' := by
  have hst : RepSt ⟨w.heap.size, (cx0 w).as, (cx0 w).ls, ([] : List SE).length, gh0⟩ gh0 w (fun r => ([] : List SE)[r]?) :=
    st0 (w := w) hgl
  refine (h.2 w gh0 (cx0 w).as (cx0 w).ls vals hst (fun b hb => hb.elim (fun h => h) (fun h => h.elim)) hr).mono ?_
  rintro e w' ⟨v, γ', rfl, hv, _, hk, _, _⟩
  cases hv.bool_inv
  exact ⟨rfl, hk.os, hk.tape, hk.output, hk.size, fun k hk' => hk.block k hk' (gh0_own k)⟩

theorem arg_one {m : Nat} {t : TypeId} {s : Sh} {v : Value} {d : DataW H} {ps : List MemPlace} (hs : shp P m t = some [s]) (hv : v.oneCell' = true) (h : DataW.Trod enc P w 0 sp held t v d ps) : ∃ p, ShR s p ∧ Rep (cx0 w) gh0 w p v := by
  obtain ⟨fuel, hf⟩ := h
  rw [cells_one hv] at hf
  obtain ⟨ps, h1, h2, _⟩ := trod_rep (X := cx0 w) (γ := gh0) lie0 _ _ _ _ _ _ hs hf
  obtain ⟨h1, h1'⟩ := h1
  match ps, h1 with
  | [p], _ =>
    obtain ⟨u, us, hu, hr, _⟩ := h2.cons_inv
    simp only [List.cons.injEq] at hu
    exact ⟨p, h1' 0 s p rfl rfl, by rw [hu.1]; exact hr⟩
theorem arg_agg {m : Nat} {t : TypeId} {shs : List Sh} {cs : Array Value} {d : DataW H} {ps : List MemPlace} (hs : shp P m t = some shs) (h : DataW.Trod enc P w 0 sp held t (.agg cs) d ps) : ∃ qs, ShL shs qs ∧ Rep (cx0 w) gh0 w (.agg qs) (.agg cs) := by
  obtain ⟨fuel, hf⟩ := h
  obtain ⟨qs, h1, h2, h3⟩ := trod_rep (X := cx0 w) (γ := gh0) lie0 _ _ _ _ _ _ hs hf
  have := Rep.agg qs cs.toList h2.1 h3 h2.2
  exact ⟨qs, h1, by simpa using this⟩

theorem Rep.le0 (hgl : GlobOK w) {p q : PV} {v : Value} (h : Rep (cx0 w) gh0 w p v) (hl : PLe (fun r => ([] : List SE)[r]?) (fun _ => true) p q) : Rep (cx0 w) gh0 w q v :=
  h.le (γk := gh0) (st0 hgl) (fun r ge b τ e z n f hr => (by cases hr)) (fun r ge hr _ => hr) (fun r ge hr => ⟨hr, rfl⟩) q hl

/-- A slice that came in, as a list. -/
theorem sh_list (hgl : GlobOK w) {α : Type} [Inhabited α] (e : α → List PV) (Q : α → Prop) {shs : List Sh} (hdec : ∀ ps, ShL shs ps → ∃ x, ps = e x ∧ Q x) {p : PV} (h : ShR (.sl shs) p) {v : Value} (hr : Rep (cx0 w) gh0 w p v) :
    ∃ l : List α, Rep (cx0 w) gh0 w (.sl 1 shs.length l.length (fl e l)) v ∧ l.length ≤ maxLen ∧ ∀ x ∈ l, Q x := by
  cases h with
  | sl _ n f hn h1 h2 =>
    have hx : ∀ i, ∃ x, i < n → f i = e x ∧ Q x := fun i => by
      by_cases hi : i < n
      · obtain ⟨x, hx⟩ := hdec (f i) ⟨h1 i hi, fun j s p hs hp => h2 i j s p hi hs hp⟩
        exact ⟨x, fun _ => hx⟩
      · exact ⟨default, fun h => absurd h hi⟩
    let g : Nat → α := fun i => Classical.choose (hx i)
    have hg : ∀ i, i < n → f i = e (g i) ∧ Q (g i) := fun i => Classical.choose_spec (hx i)
    refine ⟨(List.range n).map g, hr.le0 hgl ?_, by simpa using hn, fun x hm => ?_⟩
    · refine ⟨Nat.le_refl _, rfl, by simp, fun i hi => ?_⟩
      rw [(hg i hi).1]
      simp [fl, List.getD_eq_getElem?_getD, hi]
    · obtain ⟨i, hi, rfl⟩ := List.mem_map.1 hm
      exact (hg i (List.mem_range.1 hi)).2

theorem sh_int {k : IntKind} {p : PV} (h : ShR (.int k) p) : ∃ n, p = .int k n ∧ inR k n := by cases h with | int _ n h => exact ⟨n, rfl, h⟩
theorem sh_bool {p : PV} (h : ShR .bool p) : ∃ b, p = .bool b := by cases h with | bool b => exact ⟨b, rfl⟩
theorem sh_str {p : PV} (h : ShR .str p) : ∃ s, p = .str s ∧ s.length ≤ maxLen := by cases h with | str s h => exact ⟨s, rfl, h⟩
theorem shl_cons {s : Sh} {ss : List Sh} {ps : List PV} (h : ShL (s :: ss) ps) : ∃ p qs, ps = p :: qs ∧ ShR s p ∧ ShL ss qs := by
  obtain ⟨h1, h2⟩ := h
  match ps, h1 with
  | p :: qs, h1 => exact ⟨p, qs, rfl, h2 0 s p rfl rfl, by simpa using h1, fun j s' p' hs hp => h2 (j + 1) s' p' (by simpa using hs) (by simpa using hp)⟩
theorem shl_nil {ps : List PV} (h : ShL [] ps) : ps = [] := List.eq_nil_of_length_eq_zero h.1
end
end Pv
end Go.Proofs.YtgbknfbcjddnhaaDoor

/- A LAW's ROW, FROM ITS FUNCTION's CONTRACT: how long slices are that came in. -/
set_option linter.unusedSimpArgs false
set_option linter.unusedVariables false
namespace Go.Proofs.YtgbknfbcjddnhaaDoor
namespace Pv
open Go.RowKit Go.ChangeShapes

section
variable {H : Type} {enc : TypeId × Value → H} {P : Program} {w : World} {sp : Nat → Bool} {held : Bool}

theorem sized_len {ts : List TypeId} {ds : List (DataW H)} (hz : (DataW.weightsEach P ts ds).all (· ≤ reachBytes) = true) {j : Nat} {t e : TypeId} {d : DataW H} {ps : List MemPlace} {a : Option Addr} {len cap : Nat}
    (ht : ts[j]? = some t) (hd : ds[j]? = some d) (hu : P.underlying t = some (.slice e)) (h : DataW.Trod enc P w 0 sp held t (.slice a len cap) d ps)
    (hb : 0 < P.bytesOf e) {X : Cx} {γ : Gh} {τ z n : Nat} {f : Nat → List PV} (hr : Rep X γ w (.sl τ z n f) (.slice a len cap)) : n ≤ 140737488351232 := by
  have hn : n = len := by cases hr; rfl
  subst hn
  obtain ⟨fuel, hf⟩ := h
  rcases DataW.trod_slice hu hf with ⟨h1, _⟩ | ⟨a', len', cap', elems, rest, m, _, h1, h2, _, _, _, h3, _⟩
  · have h1' : Value.slice a n cap = .slice none 0 0 := by simpa [Value.cells] using h1
    injection h1' with _ h4 _
    omega
  · have h1' : Value.slice a n cap = .slice (some a') len' cap' := by simpa [Value.cells] using h1
    injection h1' with _ h4 _
    injection h2 with h5 _
    subst h5
    have := sized_slice hz ht hd hu
    simp only [List.length_map] at this
    have h6 : n * 1 ≤ (elems.length + rest.length) * P.bytesOf e := Nat.mul_le_mul (by omega) hb
    have h7 : reachBytes = 140737488351232 := rfl
    omega
end
end Pv
end Go.Proofs.YtgbknfbcjddnhaaDoor

/- A LAW's ROW, FROM ITS FUNCTION's CONTRACT: slices of slices that came in. -/
set_option linter.unusedSimpArgs false
set_option linter.unusedVariables false
namespace Go.Proofs.YtgbknfbcjddnhaaDoor
namespace Pv
open Go.RowKit Go.ChangeShapes

section
variable {H : Type} {enc : TypeId × Value → H} {P : Program} {w : World} {sp : Nat → Bool} {held : Bool}

def eSl {α : Type} [Inhabited α] (k : Nat) (e : α → List PV) (m : List α) : List PV := [.sl 1 k m.length (fl e m)]

/-- A slice of slices that came in, as a list of lists. -/
theorem sh_list2 (hgl : GlobOK w) {α : Type} [Inhabited α] (e : α → List PV) (Q : α → Prop) {shs : List Sh} (hdec : ∀ ps, ShL shs ps → ∃ x, ps = e x ∧ Q x) {p : PV} (h : ShR (.sl [.sl shs]) p) {v : Value} (hr : Rep (cx0 w) gh0 w p v) :
    ∃ G : List (List α), Rep (cx0 w) gh0 w (.sl 1 1 G.length (fl (eSl shs.length e) G)) v ∧ G.length ≤ maxLen ∧ ∀ m ∈ G, ∀ x ∈ m, Q x := by
  cases h with
  | sl _ n f hn h1 h2 =>
    have hx : ∀ i, ∃ m : List α, i < n → ∃ f', f i = [.sl 1 shs.length m.length f'] ∧ RowEq m.length f' (fl e m) ∧ ∀ x ∈ m, Q x := fun i => by
      by_cases hi : i < n
      · have hl := h1 i hi
        match hf : f i, hl with
        | [c], _ =>
          have hc := h2 i 0 (.sl shs) c hi rfl (by rw [hf]; rfl)
          cases hc with
          | sl _ n' f' hn' g1 g2 =>
            have hy : ∀ i, ∃ x, i < n' → f' i = e x ∧ Q x := fun j => by
              by_cases hj : j < n'
              · obtain ⟨x, hx⟩ := hdec (f' j) ⟨g1 j hj, fun k s p hs hp => g2 j k s p hj hs hp⟩
                exact ⟨x, fun _ => hx⟩
              · exact ⟨default, fun h => absurd h hj⟩
            refine ⟨(List.range n').map fun j => Classical.choose (hy j), fun _ => ⟨f', by simp, fun j hj => ?_, fun x hm => ?_⟩⟩
            · simp only [List.length_map, List.length_range] at hj
              rw [(Classical.choose_spec (hy j) hj).1]
              simp [fl, List.getD_eq_getElem?_getD, hj]
            · obtain ⟨j, hj, rfl⟩ := List.mem_map.1 hm
              exact (Classical.choose_spec (hy j) (List.mem_range.1 hj)).2
      · exact ⟨[], fun h => absurd h hi⟩
    let g : Nat → List α := fun i => Classical.choose (hx i)
    have hg : ∀ i, i < n → ∃ f', f i = [.sl 1 shs.length (g i).length f'] ∧ RowEq (g i).length f' (fl e (g i)) ∧ ∀ x ∈ g i, Q x := fun i => Classical.choose_spec (hx i)
    refine ⟨(List.range n).map g, ?_, by simpa using hn, fun m hm => ?_⟩
    · have hget : ∀ i, i < n → fl (eSl shs.length e) ((List.range n).map g) i = [.sl 1 shs.length (g i).length (fl e (g i))] := fun i hi => by
        simp [fl, eSl, List.getD_eq_getElem?_getD, hi]
      have hlen : ((List.range n).map g).length = n := by simp
      cases hr with
      | sl _ _ _ _ ad cap vs hcap hz hf hb hh =>
        rw [hlen]
        refine .sl 1 1 n _ ad cap vs hcap (fun i hi => by rw [hget i hi]; rfl) (fun i hi c hc => ?_) hb (fun i j c hi hc => ?_)
        · rw [hget i hi] at hc
          rw [List.mem_singleton.1 hc]; rfl
        · rw [hget i hi] at hc
          obtain ⟨f', e1, e2, _⟩ := hg i hi
          cases j with
          | zero =>
            simp only [List.getElem?_cons_zero, Option.some.injEq] at hc
            subst hc
            have := hh i 0 _ hi (by rw [e1]; rfl)
            exact this.le0 hgl ⟨Nat.le_refl _, rfl, rfl, e2⟩
          | succ j => simp at hc
    · obtain ⟨i, hi, rfl⟩ := List.mem_map.1 hm
      obtain ⟨_, _, _, h3⟩ := hg i (List.mem_range.1 hi)
      exact h3

theorem weightsAll_mem {e : TypeId} : ∀ {l : List (DataW H)} {i : Nat} {d : DataW H}, l[i]? = some d → ∀ n ∈ d.weights P e, n ∈ DataW.weightsAll P e l
  | [], i, d, h, n, hn => by simp at h
  | x :: l, 0, d, h, n, hn => by
    simp only [List.getElem?_cons_zero, Option.some.injEq] at h
    subst h
    simp only [DataW.weightsAll, List.mem_append]; exact .inl hn
  | x :: l, i + 1, d, h, n, hn => by
    simp only [DataW.weightsAll, List.mem_append]; exact .inr (weightsAll_mem (by simpa using h) n hn)

theorem sized_len2 {ts : List TypeId} {ds : List (DataW H)} (hz : (DataW.weightsEach P ts ds).all (· ≤ reachBytes) = true) {j : Nat} {t e e2 : TypeId} {d : DataW H} {ps : List MemPlace} {a : Option Addr} {len cap : Nat}
    (ht : ts[j]? = some t) (hd : ds[j]? = some d) (hu : P.underlying t = some (.slice e)) (hu2 : P.underlying e = some (.slice e2)) (hce : P.cellsOf e = 1) (h : DataW.Trod enc P w 0 sp held t (.slice a len cap) d ps)
    {X : Cx} {γ : Gh} {τ n : Nat} {F : Nat → List PV} (hr : Rep X γ w (.sl τ 1 n F) (.slice a len cap)) {i τ' z' N : Nat} {f' : Nat → List PV} (hi : i < n) (hF : F i = [.sl τ' z' N f']) : N * P.bytesOf e2 ≤ 140737488351232 := by
  have hreach : reachBytes = 140737488351232 := rfl
  cases hr with
  | sl _ _ _ _ _ _ vs hcap hz' hf hb hh =>
  obtain ⟨a', rfl, _, _, hcell⟩ := hb (by omega)
  obtain ⟨fuel, hfu⟩ := h
  rcases DataW.trod_slice hu hfu with ⟨h1, _⟩ | ⟨a'', len', cap', elems, rest, m, _, h1, h2, _, _, _, h3, h4, _⟩
  · simp [Value.cells] at h1
  · have h1' : Value.slice (some a') len cap = .slice (some a'') len' cap' := by simpa [Value.cells] using h1
    injection h1' with h5 h6 h7
    injection h5 with h5
    subst h5; subst h6
    injection h2 with h8 _
    subst h8
    have h9 := h4 i hi
    rw [List.getElem?_eq_getElem (by omega), hce, Nat.mul_one] at h9
    obtain ⟨cs', g1, g2⟩ := Option.bind_eq_some_iff.1 h9
    obtain ⟨_, k2, k3⟩ := World.cells?_some g1
    have k4 := k3 0 (by omega)
    have hv := hcell i (by omega)
    rw [add_add_, Nat.add_zero, hv] at k4
    have hcs : cs' = [vs i] := by
      match cs', k2, k4 with
      | [x], _, k4 => simp only [List.getElem?_cons_zero, Option.some.injEq] at k4; rw [k4]
    have hrep := hh i 0 _ hi (by rw [hF]; rfl)
    rw [Nat.mul_one, Nat.add_zero] at hrep
    simp only [PV.mark] at hrep
    subst hcs
    generalize vs i = u at hrep g2
    cases hrep with
    | sl _ _ _ _ ad cap2 vs2 _ _ _ _ _ =>
    rcases DataW.trod_slice hu2 g2 with ⟨q1, _⟩ | ⟨b, len2, cap3, elems2, rest2, m2, _, q1, q2, _, _, _, q3, _⟩
    · have q1' : Value.slice ad N cap2 = .slice none 0 0 := by simpa using q1
      injection q1' with _ q5 _
      subst q5; rw [Nat.zero_mul]; exact Nat.zero_le _
    · have q1' : Value.slice ad N cap2 = .slice (some b) len2 cap3 := by simpa using q1
      injection q1' with _ q5 _
      subst q5
      have hmem : (elems2.map (·.1)).length * P.bytesOf e2 ≤ ((elems2.map (·.1)).length + (rest2.map (·.1)).length) * P.bytesOf e2 := Nat.mul_le_mul_right _ (by omega)
      have he : (elems.map (·.1))[i]? = some (DataW.slice (elems2.map (·.1)) (rest2.map (·.1))) := by
        rw [List.getElem?_map, List.getElem?_eq_getElem (by omega), Option.map_some, q2]
      have hw1 : ((elems2.map (·.1)).length + (rest2.map (·.1)).length) * P.bytesOf e2 ∈ DataW.weightsEach P ts ds := by
        refine DataW.weights_mem_each ht hd _ ?_
        simp only [DataW.weights, hu, List.mem_cons, List.mem_append]
        refine .inr (.inl (weightsAll_mem he _ ?_))
        simp [DataW.weights, hu2]
      have := List.all_eq_true.1 hz _ hw1
      have h10 : ((elems2.map (·.1)).length + (rest2.map (·.1)).length) * P.bytesOf e2 ≤ reachBytes := by simpa using this
      have h11 : (elems2.map (·.1)).length = N := by rw [List.length_map]; exact q3
      rw [h11] at hmem h10
      omega
end
end Pv
end Go.Proofs.YtgbknfbcjddnhaaDoor

/- LAW 06, THE ROWS: what the rows' premises on package variables give. -/
set_option linter.unusedSimpArgs false
set_option linter.unusedVariables false
namespace Go.Proofs.YtgbknfbcjddnhaaDoor
open Go.ChangeShapes Go.WideShapes Go.ChangeAt Go.RowKit

theorem Tryd.own : ownKnob Tryd.prog.godebug = none := by kernel_rfl
theorem Tryd.laidOut : laidOutB Tryd.prog = true := by kernel_rfl
def lists : List (String × DataW Unit) := [("math/bits.deBruijn32tab", Rows.laid_math_bits_deBruijn32tab), ("math/bits.deBruijn64tab", Rows.laid_math_bits_deBruijn64tab), ("internal/strconv.uint64pow10", Rows.laid_internal_strconv_uint64pow10), ("unicode/utf8.acceptRanges", Rows.laid_unicode_utf8_acceptRanges), ("hydrocascade/gauge.words", Rows.laid_hydrocascade_gauge_words), ("unicode/utf8.first", Rows.laid_unicode_utf8_first)]

/-- A law's contract where the listed tables are known and the world is shaped. -/
theorem returns_door {H : Type} {enc : TypeId × Value → H} {a : Assume} {C : Checked} {os : Os} {f : FuncId} {fn : Func} {s : ChangeSpec} {conds : List PathCond} {apart fresh handsOn again : Bool} {X : World → Array Value → Prop}
    (hX : ∀ (w w' : World) (args : Array Value), w.heap = w'.heap → X w args → X w' args)
    (own : ownKnob C.prog.godebug = none) (started : os.Started) (noInit : C.prog.inits.idxOf? f = none) (hfn : C.prog.funcs[f]? = some fn)
    (witness : ∃ (w : World) (tape : Tape) (i : Input), w.os = os ∧ (w.forCall tape i).Shaped C.prog ∧ i.vars = [] ∧ Input.okWide C.prog (w.forCall tape i) .any w.heap.size f i ∧
      ((s.pre enc C.prog fn conds apart (w.forCall tape i).memory i.args ∧ X (w.forCall tape i).memory i.args) ∧ sizedMet enc C.prog fn (OpenSpec.ofChange s) apart (w.forCall tape i).memory i.args) ∧ a.holds C.prog (lone (Frame.enter C.prog f i.args .normal) [] (w.forCall tape i)))
    (law : ∀ (W : World) (base : Nat) (args : Array Value) (ds gs : List (DataW H)) (before : List MemPlace), (∀ (j : Nat) t v, fn.params[j]? = some t → args[j]? = some v → Value.okWide C.prog W .any base t v) →
      DataW.Whole enc C.prog fn.params.toList s.vars apart W args.toList ds gs before → (DataW.weightsEach C.prog (fn.params.toList ++ s.plain.varTypes C.prog) (ds ++ gs)).all (· ≤ reachBytes) = true → X W args → W.ShapedOpen C.prog →
      Calls C.prog f args W fun e W' => ∃ v, e = .returned v ∧ s.post enc C.prog fn apart fresh handsOn again W args v W') :
    ReturnsInHanded a C os f .any (fun w args => (s.pre enc C.prog fn conds apart w args ∧ X w args) ∧ sizedMet enc C.prog fn (OpenSpec.ofChange s) apart w args) (s.post enc C.prog fn apart fresh handsOn again) := by
  refine returnsInHanded_of_calls own started noInit witness fun w tape i _ hsh _ hok hpre _ => ?_
  obtain ⟨_, _, _, g, hg, _, _, _, _, hval⟩ := hok
  cases Option.some.inj (hg.symm.trans hfn)
  obtain ⟨⟨⟨ds, gs, before, hw, _⟩, hx⟩, hz⟩ := hpre
  refine (law (w.forCall tape i) w.heap.size i.args ds gs before hval (DataW.Whole.of_heap (w' := w.forCall tape i) (by rfl) hw) (hz.weights hw) (hX _ _ _ (by rfl) hx) hsh).mono ?_
  rintro e W' ⟨v, rfl, hp⟩
  exact ChangeSpec.post_blind hp

theorem tab_of {W : World} (h : laidMetH Tryd.prog lists W) : Lib.TabIs Tryd.prog W "internal/strconv.uint64pow10" .u64 Lib.pow10Tab := by
  have h1 := (laidMetH_iff.1 h).1
  have h2 := h1.filter fun x => x.1 == "internal/strconv.uint64pow10"
  have e : ((lists.filter fun x => x.2.handleName?.isNone).filter fun x => x.1 == "internal/strconv.uint64pow10") = [("internal/strconv.uint64pow10", Lib.tabData .u64 Lib.pow10Tab)] := by kernel_rfl
  rw [e] at h2
  exact Lib.tabIs_of_head (g := 1) (t := 108) (e := 100) (n := 20) (by kernel_rfl) (by kernel_rfl) (by kernel_rfl) (by kernel_rfl) (by kernel_rfl) (by kernel_rfl) h2
/-- An array of texts that reads as these holds these. -/
theorem cells_of_strs {H : Type} {enc : TypeId × Value → H} {P : Program} {w : World} {base : Nat} {sp : Nat → Bool} {held : Bool} {fuel : Nat} {t e : TypeId} {n : Nat} {cs : List Value} {zs : List (List UInt8)} {p : List MemPlace}
    (ht : P.underlying t = some (.array n e)) (he : P.underlying e = some .string) (hce : P.cellsOf e = 1) (hct : P.cellsOf t = n)
    (h : DataW.trod enc P w base sp held fuel t cs = some (.agg (zs.map fun z => .lit (.string z)), p)) : cs = zs.map fun z => Value.string ⟨z.toArray⟩ := by
  cases fuel with
  | zero => simp [DataW.trod] at h
  | succ fuel =>
    simp only [DataW.trod, ht, hce, hct, Nat.mul_one] at h
    split at h
    · rename_i hl
      obtain ⟨xs, hm, hx⟩ := Option.map_eq_some_iff.1 h
      have hxs : xs.map (·.1) = zs.map fun z => (DataW.lit (.string z) : DataW H) := by
        have := congrArg Prod.fst hx
        simpa using this
      have hxl : xs.length = n := by simpa using Lib.mapM_length hm
      have hzl : zs.length = n := by
        have := congrArg List.length hxs
        simp at this
        omega
      apply List.ext_getElem?
      intro i
      by_cases hi : i < n
      · obtain ⟨b, hb, hf⟩ := Lib.mapM_at hm i i (by simp [hi])
        obtain ⟨z, hc, hz, _⟩ := DataW.trod_string he hf
        have h1 : cs[i]? = some (.string z) := by
          have := congrArg (·[0]?) hc
          simpa [List.getElem?_take, List.getElem?_drop] using this
        have h2 : (xs.map (·.1))[i]? = some (DataW.lit (.string z.data.toList) : DataW H) := by rw [List.getElem?_map, hb, hz]; rfl
        rw [hxs] at h2
        simp only [List.getElem?_map, Option.map_eq_some_iff, DataW.lit.injEq, Lit.string.injEq] at h2
        obtain ⟨z', hz', rfl⟩ := h2
        simp [h1, hz']
      · rw [List.getElem?_eq_none (by omega), List.getElem?_eq_none (by simp; omega)]
    · cases h
theorem words_of {W : World} (h : laidMetH Tryd.prog lists W) : W.var? Tryd.prog "hydrocascade/gauge.words" = some (Pv.flagWords.map fun s => Value.string ⟨s.toArray⟩).toArray := by
  have h1 := (laidMetH_iff.1 h).1
  have h2 := h1.filter fun x => x.1 == "hydrocascade/gauge.words"
  have e : ((lists.filter fun x => x.2.handleName?.isNone).filter fun x => x.1 == "hydrocascade/gauge.words") = [("hydrocascade/gauge.words", .agg (Pv.flagWords.map fun z => .lit (.string z)))] := by kernel_rfl
  rw [e] at h2
  obtain ⟨ps, ⟨g', t', cs, fuel, p, q, hg', ht', hvar, hd, _, _⟩, _⟩ := h2
  obtain rfl := Option.some.inj ((show Tryd.prog.globalNamed "hydrocascade/gauge.words" = some 0 by kernel_rfl).symm.trans hg')
  obtain rfl := Option.some.inj ((show (Tryd.prog.globals[0]?).map (·.type) = some 82 by kernel_rfl).symm.trans ht')
  rw [hvar, ← cells_of_strs (n := 3) (e := 9) (by kernel_rfl) (by kernel_rfl) (by kernel_rfl) (by kernel_rfl) hd]
theorem glob_of {W : World} (h : laidMetH Tryd.prog lists W) (hs : W.ShapedOpen Tryd.prog) : Pv.GlobOK W := fun b p hb => by
  match b, hb with
  | 0, hb =>
    injection hb with hb; subst hb
    have ht := words_of h
    unfold World.var? at ht
    rw [show Tryd.prog.globalNamed "hydrocascade/gauge.words" = some 0 from by kernel_rfl] at ht
    simp only [Option.bind_some] at ht
    split at ht
    · rename_i cs T fz hc
      simp only [Option.some.injEq] at ht
      subst ht
      exact ⟨_, hc, T, fz, rfl⟩
    · cases ht
  | 1, hb =>
    injection hb with hb; subst hb
    have ht := tab_of h
    unfold Lib.TabIs World.var? at ht
    rw [show Tryd.prog.globalNamed "internal/strconv.uint64pow10" = some 1 from by kernel_rfl] at ht
    simp only [Option.bind_some] at ht
    split at ht
    · rename_i cs T fz hc
      simp only [Option.some.injEq] at ht
      subst ht
      exact ⟨_, hc, T, fz, rfl⟩
    · cases ht
  | 2, hb =>
    injection hb with hb; subst hb
    obtain ⟨m, hm⟩ := cell_of_shapedOpen_int (P := Tryd.prog) (w := W) (g := 2) (t := 3) (zero := #[.int .i64 0]) (k := .i64) hs (of_decide_eq_true (by kernel_rfl)) (by kernel_rfl) rfl (by kernel_rfl) (by kernel_rfl) (by kernel_rfl)
    unfold World.cell? at hm
    split at hm
    · rename_i cs T fz hc
      exact ⟨_, hc, cs, T, fz, m, rfl, by simpa using hm⟩
    · cases hm
  | b + 3, hb => cases hb
end Go.Proofs.YtgbknfbcjddnhaaDoor

set_option linter.unusedSimpArgs false
set_option linter.unusedVariables false
namespace Go.Proofs.YtgbknfbcjddnhaaDoor
open Go.ChangeShapes Go.WideShapes Go.ChangeAt Go.RowKit Go.ChangeMaps

namespace Pv
theorem dec_int : ∀ ps, ShL [.int .i64] ps → ∃ x : Int, ps = eInt x ∧ inR .i64 x := fun ps h => by
  obtain ⟨p, qs, rfl, h1, h⟩ := shl_cons h
  cases shl_nil h
  obtain ⟨a, rfl, ha⟩ := sh_int h1
  exact ⟨a, rfl, ha⟩
theorem of_wfk {k : IntKind} {n : Int} (h : (Lit.int k n).wf = true) : inR k n := by
  simp only [Lit.wf, Bool.and_eq_true, decide_eq_true_eq] at h; exact h
theorem u16_of {n : Int} (h : inR .u16 n) : 0 ≤ n ∧ n ≤ 65535 := h
theorem u8_of {n : Int} (h : inR .u8 n) : 0 ≤ n ∧ n ≤ 255 := h
theorem i64_of {n : Int} (h : inR .i64 n) : -9223372036854775808 ≤ n ∧ n ≤ 9223372036854775807 := h
theorem dec_bytes : ∀ ps, ShL [.int .u8] ps → ∃ x : UInt8, ps = eB x ∧ True := fun ps h => by
  obtain ⟨p, qs, rfl, h1, h⟩ := shl_cons h
  cases shl_nil h
  obtain ⟨a, rfl, ha⟩ := sh_int h1
  have ha' : 0 ≤ a ∧ a ≤ 255 := ha
  refine ⟨UInt8.ofNat a.toNat, ?_, trivial⟩
  have : ((UInt8.ofNat a.toNat).toNat : Int) = a := by
    rw [UInt8.toNat_ofNat']; omega
  unfold eB; rw [this]
end Pv

set_option maxRecDepth 100000 in
theorem liftedGaugeReads (os : Os) (started : os.Started) (H : Type) (enc : TypeId × Value → H) :
    ReturnsInHanded {} Tryd.checked os 6 .any (fun w args => (Rows.gaugeReadsSpec.pre enc Tryd.prog Tryd.f6 Rows.gaugeReadsRow.domain false w args ∧ laidMetH Tryd.prog lists w) ∧ sizedMet enc Tryd.prog Tryd.f6 (OpenSpec.ofChange Rows.gaugeReadsSpec) false w args) (Rows.gaugeReadsSpec.post enc Tryd.prog Tryd.f6 false true false false) := by
  refine returns_door (C := Tryd.checked) (X := fun w _ => laidMetH Tryd.prog lists w) (fun _ _ _ hh h => h.of_heap hh) Tryd.own started (by kernel_rfl) Tryd.func6
    (ChangeSpec.witness_shaped (enc := enc) (C := Tryd.checked) (os := os) (X := fun w _ => laidMetH Tryd.prog lists w) false (World.laidAll Tryd.prog os lists) #[.slice none 0 0, .string ⟨#[]⟩, .slice none 0 0, .int .i64 0, .int .i64 0] 8 (World.laidAll_os _ _ _)
      (World.shaped_of_ZipB (by kernel_rfl) (by kernel_rfl)) (by kernel_rfl) (by kernel_rfl) (by kernel_rfl)
      (by rw [MakeChecks.laidMetH_plain _ _ _ (by kernel_rfl)]; exact laidMet_laidAll _ (by kernel_rfl) (by kernel_rfl))) ?_
  intro W base args ds gs before hval0 hW hsz0 hL hS
  have hval : ∀ (j : Nat) t v, Tryd.f6.params[j]? = some t → args[j]? = some v → Value.okWide Tryd.prog W .any base t v := hval0
  have hW' := hW
  obtain ⟨p, q, hA0, hV, rfl, hfz, hnd⟩ := hW
  have hA : DataW.TrodAll enc Tryd.prog W 0 (fun _ => true) true Tryd.f6.params.toList args.toList ds p := hA0
  rw [Tryd.params6] at hA hval
  have hgl : Pv.GlobOK W := glob_of hL hS
  have hsz : (DataW.weightsEach Tryd.prog (Tryd.f6.params.toList ++ (Rows.gaugeReadsSpec).plain.varTypes Tryd.prog) (ds ++ gs)).all (· ≤ reachBytes) = true := hsz0
  rw [Tryd.params6] at hsz
  obtain ⟨v0, vs0, d0, ds0, p0, q0, hargs, rfl, rfl, h0, r0⟩ := trodAll_cons hA
  obtain ⟨v1, vs1, d1, ds1, p1, q1, rfl, rfl, rfl, h1, r1⟩ := trodAll_cons r0
  obtain ⟨v2, vs2, d2, ds2, p2, q2, rfl, rfl, rfl, h2, r2⟩ := trodAll_cons r1
  obtain ⟨v3, vs3, d3, ds3, p3, q3, rfl, rfl, rfl, h3, r3⟩ := trodAll_cons r2
  obtain ⟨v4, vs4, d4, ds4, p4, q4, rfl, rfl, rfl, h4, r4⟩ := trodAll_cons r3
  obtain ⟨rfl, rfl, rfl⟩ := trodAll_nil r4
  obtain rfl : args = #[v0, v1, v2, v3, v4] := by cases args; simp_all
  obtain ⟨rfl, rfl⟩ := trodVars_none hV
  have k0 := h0
  have lt0 : ∀ x ∈ p0, x.block < W.heap.size := by obtain ⟨m, hm⟩ := k0; exact DataW.trod_lt m _ _ _ hm
  obtain ⟨a0, len0, cap0, rfl⟩ := okWide_slice Tryd.underlying41 (hval 0 41 v0 rfl rfl)
  obtain ⟨_, s0, g0⟩ := Pv.arg_one (m := 9) (s := .sl [.int .u8]) (by kernel_rfl) rfl k0
  obtain ⟨l0, e0, _, i0⟩ := Pv.sh_list hgl Pv.eB (fun _ => True) Pv.dec_bytes s0 g0
  obtain ⟨l1, rfl, rfl, rfl, w1⟩ := open_string Tryd.underlying9 (hval 1 9 v1 rfl rfl) h1
  have e1 : Pv.Rep (Pv.cx0 W) Pv.gh0 W (.str l1.data.toList) (.string l1) := by
    have := Pv.Rep.str (X := Pv.cx0 W) (γ := Pv.gh0) (w := W) l1.data.toList
    simpa using this
  have k2 := h2
  have lt2 : ∀ x ∈ p2, x.block < W.heap.size := by obtain ⟨m, hm⟩ := k2; exact DataW.trod_lt m _ _ _ hm
  obtain ⟨a2, len2, cap2, rfl⟩ := okWide_slice Tryd.underlying24 (hval 2 24 v2 rfl rfl)
  obtain ⟨_, s2, g2⟩ := Pv.arg_one (m := 9) (s := .sl [.int .i64]) (by kernel_rfl) rfl k2
  obtain ⟨l2, e2, _, i2⟩ := Pv.sh_list hgl Pv.eInt (Pv.inR .i64) Pv.dec_int s2 g2
  obtain ⟨l3, rfl, rfl, rfl, w3⟩ := open_int Tryd.underlying3 (hval 3 3 v3 rfl rfl) h3
  have i3 := Pv.of_wfk w3
  have e3 : Pv.Rep (Pv.cx0 W) Pv.gh0 W (.int .i64 l3) (.int .i64 l3) := .int _ _
  obtain ⟨l4, rfl, rfl, rfl, w4⟩ := open_int Tryd.underlying3 (hval 4 3 v4 rfl rfl) h4
  have i4 := Pv.of_wfk w4
  have e4 : Pv.Rep (Pv.cx0 W) Pv.gh0 W (.int .i64 l4) (.int .i64 l4) := .int _ _
  clear hA0 hval0
  refine (Pv.law_calls hgl (Pv.call6 l0 l1.data.toList l2 l3 l4 (Pv.i64_of i3) (Pv.i64_of i4)) (Pv.RepL.cons_ e0 (Pv.RepL.cons_ e1 (Pv.RepL.cons_ e2 (Pv.RepL.cons_ e3 (Pv.RepL.cons_ e4 Pv.RepL.nil_)))))).mono fun e W' ⟨he, bel⟩ => ?_
  subst he
  exact ⟨_, rfl, _, _, _, [], _, [], hW', trodAll_mk1 (shut_bool Tryd.underlying4 _), (trodAll_cons_mk (Below.trod Tryd.laidOut (by kernel_rfl) (of_decide_eq_true (by kernel_rfl)) k0 bel lt0) (trodAll_cons_mk (shut_string Tryd.underlying9 w1) (trodAll_cons_mk (Below.trod Tryd.laidOut (by kernel_rfl) (of_decide_eq_true (by kernel_rfl)) k2 bel lt2) (trodAll_cons_mk (shut_int Tryd.underlying3 w3) (trodAll_cons_mk (shut_int Tryd.underlying3 w4) trodAll_mk0))))), rfl, bel.frame _, fun h => by cases h⟩

/-- The row of GaugeReads. -/
theorem GaugeReads_row : Rows.GaugeReadsSaid :=
  OpenClaim.holds_of_wide 6 Tryd.f6 rfl rfl rfl rfl rfl rfl rfl ⟨rfl, rfl, rfl, rfl, rfl⟩ rfl rfl rfl rfl rfl (by kernel_rfl) Tryd.func6 (by kernel_rfl)
    (of_decide_eq_true (by kernel_rfl)) (by unfold Func.isWrapper; first | (rw [if_pos (by decide +kernel)]; kernel_rfl) | (rw [if_neg (by decide +kernel)]; exact ⟨rfl, rfl⟩))
    (fun os started H enc _ => liftedGaugeReads os started H enc)
/-- GaugeReads: the given statement. -/
theorem GaugeReads_holds : Rows.GaugeReadsCardSaid :=
  Claim7.holds_tied_plain_at .later [] [.data, .data, .data, .data, .data, .pinned] true (true, "977ada0537682b1f29364eccd33263bf23faa7d6eb46f53485f123fa495b9f10") false GaugeReads_row (fun _ h => by cases h) (by kernel_rfl) (fun _ h => by cases h) gaugeReads_row_tie rfl ⟨rfl, rfl⟩ (by kernel_rfl) rfl
    (fun f fn hf hfn => by
      obtain rfl : f = 6 := Option.some.inj ((show Tryd.prog.funcNamed "hydrocascade/hydrocascadelaw06.GaugeReads" = some 6 by kernel_rfl).symm.trans hf) |>.symm
      obtain rfl : fn = Tryd.f6 := (Option.some.inj (Tryd.func6.symm.trans hfn)).symm
      exact ⟨by kernel_rfl, fun j t ht => by
        rw [Tryd.params6] at ht
        have hm : t ∈ [41, 9, 24, 3, 3] := by simpa using Array.mem_of_getElem? ht
        have hall : ([41, 9, 24, 3, 3].all fun u => !Tryd.prog.wantsStandIn u) = true := by kernel_rfl
        exact (show Tryd.prog.wantsStandIn t = false by simpa using List.all_eq_true.1 hall t hm)⟩)
    (by kernel_rfl)
end Go.Proofs.YtgbknfbcjddnhaaDoor
