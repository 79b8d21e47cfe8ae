/- LAW 42: ReportTells answers true. -/
import Derived.Test.YtafnkpmoolbjjaaDoorZeh
import Derived.Test.YtafnkpmoolbjjaaDoorZeg
/- A NIL SLICE IN A FIELD of a box is an empty slice of the call's own. -/
set_option linter.unusedSimpArgs false
set_option linter.unusedVariables false
namespace Go.Proofs.YtafnkpmoolbjjaaDoor
namespace Pv
open Go.RowKit
variable {P : Program} {wr : Bool} {np n : Nat} {c : C} {Q : Lv → PS → Prop}
theorem LSem.adoptF {fr : Nat → Option PV} {st : Nat → Option SE} {ok : Prop} {log : Nat → Option LogE} (r k R : Nat) (e : TypeId) (z z' : Nat) (l : List PV) (h1 : st r = some (.box l)) (hk : l[k]? = some (.nil z')) (h2 : st R = none)
    (h : LSem P wr np c Q ⟨n, fr, upd (upd st R (.row 0 e z 0 (fun _ => []))) r (.box (l.set k (.os R))), ok, log⟩) : LSem P wr np c Q ⟨n, fr, st, ok, log⟩ := by
  intro hQ code hc X w0 may a w γ hX hR
  have hne : r ≠ R := fun e => by rw [e, h2] at h1; cases h1
  let ge : GE := ⟨none, .slice none 0 0, z⟩
  have hE : EffOK X γ w st (Eff.pure (.os R)) (.slice none 0 0) w (upd γ R ge) (upd st R (.row 0 e z 0 (fun _ => []))) :=
    EffOK.add hR.st hR.hX h2 rfl (Keeps.refl _ _) (fun b hb => by rcases hb with hb | hb <;> cases hb) (fun _ => ⟨[], rfl, rfl, rfl, ⟨by simp, .inl ⟨rfl, rfl⟩⟩, by simp, fun i hi => by omega, fun i hi => by omega, fun i j c u hi => by omega⟩)
      (fun _ => .os R ge (upd_same _ _ _) rfl rfl)
  have hR2 : Rel X w0 may (a.put none (.slice none 0 0)) w ⟨n, fr, upd st R (.row 0 e z 0 (fun _ => [])), ok, log⟩ (upd γ R ge) :=
    hR.after (s' := ⟨n, fr, upd st R (.row 0 e z 0 (fun _ => [])), ok, log⟩) hE rfl fun t p hp => .inr ⟨by simp, p, hp, (void_nil p).symm⟩
  have hr1 : (upd st R (.row 0 e z 0 (fun _ => []))) r = some (.box l) := by rw [upd_ne _ _ hne]; exact h1
  refine h hQ code hc X w0 may a w (upd γ R ge) hX ⟨hR2.size, hR2.defers, hR2.fr, ?_, hR2.keeps, hR2.lo, hR2.own, hR2.asLt, fun q hq => ?_, hR2.mayP⟩
  · have hst := hR2.st
    refine ⟨fun q => ?_, fun q g en hg hen => ?_, hst.inj, hst.asOff, hst.lt, hst.glob⟩
    · have := hst.dom q
      by_cases hqr : q = r
      · subst hqr
        simp only [upd_same]
        simp only at this
        rw [this, hr1]; rfl
      · simp only [upd_ne _ _ hqr]; exact this
    · by_cases hqr : q = r
      · subst hqr
        simp only [upd_same, Option.some.injEq] at hen
        subst hen
        obtain ⟨b, g1, hbx⟩ := hst.at_ q g (.box l) hg hr1
        rcases hbx with ⟨T, vs, g3, g5, g4⟩ | ⟨ks, vks, ka, va, hh, ff, es, clock, hl, _⟩
        rotate_left
        · rw [hl] at hk
          match k, hk with
          | 0, hk => cases hk
          | k + 1, hk => simp at hk
        refine ⟨b, g1, .inl ⟨T, vs, g3, g5, by rw [List.length_set]; exact g4.1, fun j c u hc hu => ?_⟩⟩
        by_cases hj : j = k
        · subst hj
          have hlt : j < l.length := (List.getElem?_eq_some_iff.1 hk).1
          rw [List.getElem?_set_self hlt] at hc
          injection hc with hc; subst hc
          have := (g4.2 j _ u hk hu).nil_inv
          rw [this]
          exact .os R ge (upd_same _ _ _) rfl rfl
        · rw [List.getElem?_set_ne (by omega)] at hc
          exact g4.2 j c u hc hu
      · simp only [upd_ne _ _ hqr] at hen
        exact hst.at_ q g en hg hen
  · have := hR2.par q hq
    by_cases hqr : q = r
    · subst hqr
      simp only [upd_same]
      simp only at this
      rw [hr1] at this
      exact this
    · simp only [upd_ne _ _ hqr]; exact this
theorem LSem.untag {fr : Nat → Option PV} {st : Nat → Option SE} {ok : Prop} {log : Nat → Option LogE} (r τ : Nat) (e : TypeId) (f : Nat → List PV) (l : List Int) (h1 : st r = some (.row τ e 1 l.length f)) (hf : RowEq l.length f (fl (fun n : Int => [PV.int .i64 n]) l))
    (h : LSem P wr np c Q ⟨n, fr, upd st r (.row 0 e 1 l.length (fl (fun n : Int => [PV.int .i64 n]) l)), ok, log⟩) : LSem P wr np c Q ⟨n, fr, st, ok, log⟩ := by
  intro hQ code hc X w0 may a w γ hX hR
  refine h hQ code hc X w0 may a w γ hX ⟨hR.size, hR.defers, hR.fr, ?_, hR.keeps, hR.lo, hR.own, hR.asLt, fun q hq => ?_, hR.mayP⟩
  · have hst := hR.st
    refine ⟨fun q => ?_, fun q g en hg hen => ?_, hst.inj, hst.asOff, hst.lt, hst.glob⟩
    · have := hst.dom q
      by_cases hqr : q = r
      · subst hqr
        simp only [upd_same]
        simp only at this
        rw [this, h1]; rfl
      · simp only [upd_ne _ _ hqr]; exact this
    · by_cases hqr : q = r
      · subst hqr
        simp only [upd_same, Option.some.injEq] at hen
        subst hen
        obtain ⟨vs, g1, g2, g3, g4, g5, g6, g7, g8⟩ := hst.at_ q g _ hg h1
        refine ⟨vs, g1, g2, g3, g4, g5, fun i _ => rfl, fun i _ c hc => ?_, fun i j c u hi hc hu => ?_⟩
        · have : c = .int .i64 (l.getD i default) := by simpa [fl] using hc
          subst this; rfl
        · have hc2 : (f i)[j]? = some c := by rw [hf i hi]; exact hc
          have h9 := g8 i j c u hi hc2 hu
          have hj : j = 0 := by
            have := (List.getElem?_eq_some_iff.1 hc).1
            simp [fl] at this; omega
          subst hj
          have : c = .int .i64 (l.getD i default) := by
            have h0 : some (PV.int .i64 (l.getD i default)) = some c := hc
            injection h0 with h0; exact h0.symm
          subst this
          exact h9
      · simp only [upd_ne _ _ hqr] at hen
        exact hst.at_ q g en hg hen
  · have := hR.par q hq
    by_cases hqr : q = r
    · subst hqr
      simp only at this
      rw [h1] at this
      exact this.elim
    · simp only [upd_ne _ _ hqr]; exact this
end Pv
end Go.Proofs.YtafnkpmoolbjjaaDoor
/- UNITS that are made. -/
set_option linter.unusedSimpArgs false
set_option linter.unusedVariables false
namespace Go.Proofs.YtafnkpmoolbjjaaDoor
namespace Pv
def c61L1 : C := (.seq (.seq (.reg [⟨(some 24), 384, none, .mv (.t 4)⟩,
    ⟨(some 25), 400, none, .bi false .gtr (.t 24) (.c (.int .i64 0))⟩])
  (.cond (.t 25) .skip (.exit 0)))
  (.seq (.block 1 (.seq (.reg [⟨(some 28), 448, none, .mv (.t 0)⟩,
    ⟨(some 29), 464, none, .call (.c (.fn (.func 26) [] [])) [(.t 28), (.c (.int .i64 16))]⟩,
    ⟨(some 5), 80, none, .mv (.t 29)⟩])
  (.drw [⟨(some 30), 480, none, .fa 3 (.t 3)⟩,
    ⟨(some 31), 496, none, .ld 1 false (.t 30)⟩,
    ⟨(some 32), 512, none, .mv (.t 5)⟩,
    ⟨(some 33), 528, none, .mv (.t 5)⟩,
    ⟨(some 34), 544, none, .bi false .add (.t 33) (.c (.int .i64 1))⟩,
    ⟨(some 35), 560, none, .mv (.t 0)⟩,
    ⟨(some 36), 576, none, .call (.c (.fn (.func 26) [] [])) [(.t 35), (.c (.int .i64 5))]⟩,
    ⟨(some 37), 592, none, .bi false .add (.t 34) (.t 36)⟩,
    ⟨(some 38), 608, none, .bd [(.int .i64 0), (.int .i64 0)] [(0, 1, (.t 32)), (1, 1, (.t 37))]⟩,
    ⟨(some 39), 624, none, .bs 165 2 [(.t 38)]⟩,
    ⟨(some 40), 640, none, .app 165 2 16 (.t 31) (.t 39)⟩,
    ⟨(some 41), 656, none, .fa 3 (.t 3)⟩,
    ⟨none, 0, none, .st 1 (.t 41) (.t 40)⟩]
    [(0, 2, 30), (0, 3, 30), (0, 4, 30), (0, 5, 30), (0, 6, 30), (0, 7, 30), (0, 8, 30), (0, 9, 30), (1, 2, 31), (1, 3, 31), (1, 4, 31), (1, 5, 31), (1, 6, 31), (1, 7, 31), (1, 8, 31), (1, 9, 31), (2, 3, 32), (2, 4, 32), (2, 5, 32), (2, 6, 32), (2, 7, 32), (3, 5, 33), (3, 6, 33), (4, 5, 34), (4, 6, 34)])))
  (.reg [⟨(some 26), 416, none, .mv (.t 4)⟩,
    ⟨(some 27), 432, none, .bi false .sub (.t 26) (.c (.int .i64 1))⟩,
    ⟨(some 4), 64, none, .mv (.t 27)⟩])))
def c61 : C := (.seq (.reg [⟨(some 2), 32, none, .al [(.nil 2), (.int .i64 0), (.int .i64 0), (.nil 2), (.int .i64 0), (.int .i64 0)]⟩])
  (.seq (.reg [⟨(some 6), 96, none, .mv (.t 0)⟩,
    ⟨(some 7), 112, none, .call (.c (.fn (.func 60) [] [])) [(.t 6), (.c (.int .i64 0)), (.c (.int .i64 0)), (.c (.int .i64 10)), (.c (.int .i64 30)), (.c (.bool false))]⟩,
    ⟨(some 8), 128, none, .mv (.t 0)⟩,
    ⟨(some 9), 144, none, .call (.c (.fn (.func 26) [] [])) [(.t 8), (.c (.int .i64 8))]⟩,
    ⟨(some 10), 160, none, .bi false .add (.c (.int .i64 1)) (.t 9)⟩,
    ⟨(some 11), 176, none, .mv (.t 0)⟩,
    ⟨(some 12), 192, none, .call (.c (.fn (.func 26) [] [])) [(.t 11), (.c (.int .i64 3))]⟩,
    ⟨(some 13), 208, none, .mv (.t 0)⟩,
    ⟨(some 14), 224, none, .call (.c (.fn (.func 26) [] [])) [(.t 13), (.c (.int .i64 3))]⟩,
    ⟨(some 15), 240, none, .bd [(.nil 2), (.int .i64 0), (.int .i64 0), (.nil 2), (.int .i64 0), (.int .i64 0)] [(0, 1, (.t 7)), (1, 1, (.t 10)), (4, 1, (.t 12)), (5, 1, (.t 14))]⟩,
    ⟨(some 3), 48, none, .al [(.nil 2), (.int .i64 0), (.int .i64 0), (.nil 2), (.int .i64 0), (.int .i64 0)]⟩,
    ⟨none, 0, none, .st 6 (.t 3) (.t 15)⟩])
  (.seq (.drw [⟨(some 16), 256, none, .fa 1 (.t 3)⟩,
    ⟨(some 17), 272, none, .ld 1 false (.t 16)⟩,
    ⟨(some 18), 288, none, .mv (.t 0)⟩,
    ⟨(some 19), 304, none, .call (.c (.fn (.func 26) [] [])) [(.t 18), (.c (.int .i64 12))]⟩,
    ⟨(some 20), 320, none, .bi false .add (.t 17) (.t 19)⟩,
    ⟨(some 21), 336, none, .fa 2 (.t 3)⟩,
    ⟨none, 0, none, .st 1 (.t 21) (.t 20)⟩]
    [(0, 2, 16), (0, 3, 16), (1, 2, 17), (1, 3, 17)])
  (.seq (.seq (.reg [⟨(some 22), 352, none, .mv (.t 0)⟩,
    ⟨(some 23), 368, none, .call (.c (.fn (.func 26) [] [])) [(.t 22), (.c (.int .i64 3))]⟩,
    ⟨(some 4), 64, none, .mv (.t 23)⟩])
  (.block 0 (.loop c61L1)))
  (.seq (.reg [⟨(some 42), 672, none, .ld 6 true (.t 3)⟩,
    ⟨none, 0, none, .st 6 (.t 2) (.t 42)⟩])
  .ret)))))
theorem fits61 : fits Tryd.prog false Tryd.f61 1 43 [(2, some (6, true))] = some c61.er := by kernel_rfl
def c62 : C := (.seq (.reg [⟨(some 3), 48, none, .bx 6 (.t 1)⟩,
    ⟨(some 4), 64, none, .al [(.int .i64 0), (.int .i64 0), (.bool false)]⟩])
  (.seq (.reg [⟨(some 8), 128, none, .mv (.t 0)⟩,
    ⟨(some 9), 144, none, .call (.c (.fn (.func 26) [] [])) [(.t 8), (.c (.int .i64 5))]⟩,
    ⟨(some 10), 160, none, .mv (.t 0)⟩,
    ⟨(some 11), 176, none, .call (.c (.fn (.func 26) [] [])) [(.t 10), (.c (.int .i64 7))]⟩,
    ⟨(some 12), 192, none, .bi false .eql (.t 11) (.c (.int .i64 6))⟩,
    ⟨(some 13), 208, none, .bd [(.int .i64 0), (.int .i64 0), (.bool false)] [(1, 1, (.t 9)), (2, 1, (.t 12))]⟩,
    ⟨(some 5), 80, none, .al [(.int .i64 0), (.int .i64 0), (.bool false)]⟩,
    ⟨none, 0, none, .st 3 (.t 5) (.t 13)⟩])
  (.seq (.seq (.reg [⟨(some 15), 240, none, .ld 6 true (.t 3)⟩,
    ⟨(some 16), 256, none, .call (.c (.fn (.func 78) [] [])) [(.t 15), (.c (.int .i64 1))]⟩,
    ⟨(some 14), 224, none, .mv (.t 16)⟩,
    ⟨(some 17), 272, none, .ex (.t 14) 0⟩,
    ⟨(some 18), 288, none, .ex (.t 14) 1⟩,
    ⟨(some 6), 96, none, .mv (.t 17)⟩,
    ⟨(some 7), 112, none, .mv (.t 18)⟩])
  (.seq (.reg [⟨(some 19), 304, none, .mv (.t 6)⟩,
    ⟨(some 20), 320, none, .len (.t 19)⟩,
    ⟨(some 21), 336, none, .bi false .gtr (.t 20) (.c (.int .i64 0))⟩,
    ⟨(some 22), 352, none, .mv (.t 21)⟩,
    ⟨(some 23), 368, (some (22, true)), .fa 2 (.t 5)⟩,
    ⟨(some 24), 384, (some (22, true)), .ld 1 false (.t 23)⟩,
    ⟨(some 25), 400, (some (22, true)), .un false .not (.t 24)⟩,
    ⟨(some 26), 416, none, .pick (.t 22) (.t 25) (.c (.bool false))⟩,
    ⟨(some 27), 432, none, .mv (.t 26)⟩,
    ⟨(some 28), 448, (some (27, true)), .mv (.t 0)⟩,
    ⟨(some 29), 464, (some (27, true)), .call (.c (.fn (.func 26) [] [])) [(.t 28), (.c (.int .i64 2))]⟩,
    ⟨(some 30), 480, (some (27, true)), .bi false .eql (.t 29) (.c (.int .i64 0))⟩,
    ⟨(some 31), 496, none, .pick (.t 27) (.t 30) (.c (.bool false))⟩])
  (.cond (.t 31) (.reg [⟨(some 32), 512, none, .mv (.t 6)⟩,
    ⟨(some 33), 528, none, .mv (.t 0)⟩,
    ⟨(some 34), 544, none, .mv (.t 6)⟩,
    ⟨(some 35), 560, none, .len (.t 34)⟩,
    ⟨(some 36), 576, none, .call (.c (.fn (.func 26) [] [])) [(.t 33), (.t 35)]⟩,
    ⟨(some 37), 592, none, .ia 1 (.t 32) (.t 36)⟩,
    ⟨(some 38), 608, none, .ld 1 false (.t 37)⟩,
    ⟨(some 39), 624, none, .fa 0 (.t 5)⟩,
    ⟨none, 0, none, .st 1 (.t 39) (.t 38)⟩]) .skip)))
  (.seq (.reg [⟨(some 40), 640, none, .ld 3 true (.t 5)⟩,
    ⟨none, 0, none, .st 3 (.t 4) (.t 40)⟩])
  .ret))))
theorem fits62 : fits Tryd.prog false Tryd.f62 2 41 [(4, some (3, true))] = some c62.er := by kernel_rfl
def c50L1 : C := (.seq (.seq (.reg [⟨(some 14), 224, none, .mv (.t 8)⟩,
    ⟨(some 15), 240, none, .bi false .gtr (.t 14) (.c (.int .i64 0))⟩])
  (.cond (.t 15) .skip (.exit 0)))
  (.seq (.block 1 (.seq (.reg [⟨(some 18), 288, none, .mv (.t 0)⟩,
    ⟨(some 19), 304, none, .call (.c (.fn (.func 61) [] [])) [(.t 18)]⟩,
    ⟨(some 9), 144, none, .al [(.nil 2), (.int .i64 0), (.int .i64 0), (.nil 2), (.int .i64 0), (.int .i64 0)]⟩,
    ⟨none, 0, none, .st 6 (.t 9) (.t 19)⟩])
  (.drw [⟨(some 20), 320, none, .mv (.t 6)⟩,
    ⟨(some 21), 336, none, .ld 6 true (.t 9)⟩,
    ⟨(some 22), 352, none, .bs 139 6 [(.t 21)]⟩,
    ⟨(some 23), 368, none, .app 139 6 80 (.t 20) (.t 22)⟩,
    ⟨(some 24), 384, none, .mv (.t 7)⟩,
    ⟨(some 25), 400, none, .mv (.t 0)⟩,
    ⟨(some 26), 416, none, .ld 6 true (.t 9)⟩,
    ⟨(some 27), 432, none, .call (.c (.fn (.func 62) [] [])) [(.t 25), (.t 26)]⟩,
    ⟨(some 28), 448, none, .bs 142 3 [(.t 27)]⟩,
    ⟨(some 29), 464, none, .app 142 3 24 (.t 24) (.t 28)⟩,
    ⟨(some 6), 96, none, .mv (.t 23)⟩,
    ⟨(some 7), 112, none, .mv (.t 29)⟩]
    [(0, 1, 20), (0, 2, 20), (0, 4, 20), (0, 5, 20), (0, 6, 20), (1, 4, 21), (1, 5, 21), (1, 6, 21), (2, 4, 22), (2, 5, 22), (2, 6, 22), (3, 4, 23), (3, 5, 23), (3, 6, 23), (4, 5, 24), (4, 6, 24), (4, 7, 24), (4, 8, 24), (5, 6, 25)])))
  (.reg [⟨(some 16), 256, none, .mv (.t 8)⟩,
    ⟨(some 17), 272, none, .bi false .sub (.t 16) (.c (.int .i64 1))⟩,
    ⟨(some 8), 128, none, .mv (.t 17)⟩])))
def c50 : C := (.seq (.reg [⟨(some 4), 64, none, .mv (.c (.nil 6))⟩,
    ⟨(some 5), 80, none, .mv (.c (.nil 3))⟩])
  (.seq (.reg [⟨(some 6), 96, none, .mv (.c (.nil 6))⟩])
  (.seq (.reg [⟨(some 7), 112, none, .mv (.c (.nil 3))⟩])
  (.seq (.seq (.reg [⟨(some 10), 160, none, .mv (.t 0)⟩,
    ⟨(some 11), 176, none, .mv (.t 1)⟩,
    ⟨(some 12), 192, none, .bi false .add (.t 11) (.c (.int .i64 1))⟩,
    ⟨(some 13), 208, none, .call (.c (.fn (.func 26) [] [])) [(.t 10), (.t 12)]⟩,
    ⟨(some 8), 128, none, .mv (.t 13)⟩])
  (.block 0 (.loop c50L1)))
  (.seq (.reg [⟨(some 30), 480, none, .mv (.t 6)⟩,
    ⟨(some 31), 496, none, .mv (.t 7)⟩,
    ⟨(some 4), 64, none, .mv (.t 30)⟩,
    ⟨(some 5), 80, none, .mv (.t 31)⟩])
  .ret)))))
theorem fits50 : fits Tryd.prog false Tryd.f50 2 32 [(4, none), (5, none)] = some c50.er := by kernel_rfl
structure Us where
  flow : Int
  since : Int
  out : Bool
  deriving Inhabited
def eUs (s : Us) : List PV := [.int .i64 s.flow, .int .i64 s.since, .bool s.out]
def rghN (s : List Bnd × Dk) : List Bnd × Dk := (s.1 ++ [⟨nxt s.2 16, nxt s.2 16 + 1 + nxt (nxtD s.2 16) 5⟩], nxtD (nxtD s.2 16) 5)
def unitC (d : Dk) : Cst := curveS d 0 0 10 30 0
def unitE (d : Dk) : Dk := nxtD (nxtD (nxtD (nxtD (unitC d).d 8) 3) 3) 12
def unitR (d : Dk) : List Bnd × Dk := it rghN (nxt (unitE d) 3).toNat ([], nxtD (unitE d) 3)
def unitF (d : Dk) : Ut × Dk :=
  (⟨(unitC d).L, 1 + nxt (unitC d).d 8, 1 + nxt (unitC d).d 8 + nxt (nxtD (nxtD (nxtD (unitC d).d 8) 3) 3) 12, (unitR d).1, nxt (nxtD (unitC d).d 8) 3, nxt (nxtD (nxtD (unitC d).d 8) 3) 3⟩, (unitR d).2)
def ustF (d : Dk) (u : Ut) : Us × Dk :=
  let e := nxtD (nxtD d 5) 7
  let l := (flowsU u 1).1
  if 0 < l.length ∧ (nxt (nxtD d 5) 7 == 6) = false then
    if nxt e 2 = 0 then (⟨l.getD (nxt (nxtD e 2) l.length).toNat default, nxt d 5, nxt (nxtD d 5) 7 == 6⟩, nxtD (nxtD e 2) l.length) else (⟨0, nxt d 5, nxt (nxtD d 5) 7 == 6⟩, nxtD e 2)
  else (⟨0, nxt d 5, nxt (nxtD d 5) 7 == 6⟩, e)
def unN (s : List Ut × List Us × Dk) : List Ut × List Us × Dk := (s.1 ++ [(unitF s.2.2).1], s.2.1 ++ [(ustF (unitF s.2.2).2 (unitF s.2.2).1).1], (ustF (unitF s.2.2).2 (unitF s.2.2).1).2)
def unitsF (d : Dk) (m : Int) : List Ut × List Us × Dk := it unN (nxt d (m + 1)).toNat ([], [], nxtD d (m + 1))
theorem rgh_ok : ∀ (n : Nat) (s : List Bnd × Dk), (it rghN n s).1.length = s.1.length + n ∧ (it rghN n s).2.at_ ≤ s.2.at_ + 2 * n
  | 0, s => ⟨rfl, Nat.le_refl _⟩
  | n + 1, s => by
    have ih := rgh_ok n (rghN s)
    have e1 : (rghN s).1.length = s.1.length + 1 := by simp [rghN]
    have e2 : (rghN s).2 = nxtD (nxtD s.2 16) 5 := rfl
    have a1 := nxtD_at s.2 16
    have a2 := nxtD_at (nxtD s.2 16) 5
    unfold it
    rw [e1, e2] at ih
    omega
theorem unitR_ok (d : Dk) : (unitR d).1.length ≤ 2 ∧ (unitR d).2.at_ ≤ (unitE d).at_ + 5 := by
  have hr := rgh_ok (nxt (unitE d) 3).toNat ([], nxtD (unitE d) 3)
  have hu : unitR d = it rghN (nxt (unitE d) 3).toNat ([], nxtD (unitE d) 3) := rfl
  rw [← hu] at hr
  rw [List.length_nil] at hr
  generalize unitR d = R at hr ⊢
  clear hu
  generalize unitE d = e at hr ⊢
  have r1 := nxt_lt e (n := 3) (by omega)
  have a0 := nxtD_at e 3
  generalize nxt e 3 = x at r1 hr
  dsimp only at hr
  generalize nxtD e 3 = y at a0 hr
  omega
theorem unitE_at (d : Dk) : (unitE d).at_ ≤ (unitC d).d.at_ + 4 := by
  unfold unitE
  generalize (unitC d).d = e
  have a1 := nxtD_at e 8
  generalize nxtD e 8 = e1 at a1 ⊢
  have a2 := nxtD_at e1 3
  generalize nxtD e1 3 = e2 at a2 ⊢
  have a3 := nxtD_at e2 3
  generalize nxtD e2 3 = e3 at a3 ⊢
  have a4 := nxtD_at e3 12
  omega
theorem unitF_tb (d : Dk) : (unitF d).1.tb = (unitC d).L := by unfold unitF; dsimp only
theorem unitF_rough (d : Dk) : (unitF d).1.rough = (unitR d).1 := by unfold unitF; dsimp only
theorem unitF_d (d : Dk) : (unitF d).2 = (unitR d).2 := by unfold unitF; dsimp only
theorem unitC_ok (d : Dk) : MadeC (unitC d).L ∧ (unitC d).d.at_ ≤ d.at_ + 9 := by
  have h := curve_made d (x := 0) (y := 0) (dx := 10) (dy := 30) (least := 0) (by omega) (by omega) (by omega) (by omega) (by omega)
  unfold unitC
  exact h
theorem unitF_ok (d : Dk) : (unitC d).d.at_ ≤ d.at_ + 9 ∧ MadeC (unitF d).1.tb ∧ (unitF d).1.rough.length ≤ 2 ∧ (unitF d).2.at_ ≤ d.at_ + 20 := by
  have h := unitC_ok d
  have h2 := unitR_ok d
  have h3 := unitE_at d
  rw [unitF_tb, unitF_rough, unitF_d]
  generalize unitR d = R at h2 ⊢
  generalize unitE d = E at h2 h3
  generalize unitC d = c at h h3 ⊢
  exact ⟨h.2, h.1, h2.1, by omega⟩
theorem ustF_at (d : Dk) (u : Ut) : (ustF d u).2.at_ ≤ d.at_ + 4 := by
  have a0 := nxtD_at d 5
  have a1 := nxtD_at (nxtD d 5) 7
  have a2 := nxtD_at (nxtD (nxtD d 5) 7) 2
  have a3 := nxtD_at (nxtD (nxtD (nxtD d 5) 7) 2) (flowsU u 1).1.length
  unfold ustF
  dsimp only
  split
  · split
    · dsimp only; omega
    · dsimp only; omega
  · dsimp only; omega
theorem un_ok : ∀ (n : Nat) (s : List Ut × List Us × Dk), (it unN n s).1.length = s.1.length + n ∧ (it unN n s).2.1.length = s.2.1.length + n ∧ (it unN n s).2.2.at_ ≤ s.2.2.at_ + 24 * n
  | 0, s => ⟨rfl, rfl, Nat.le_refl _⟩
  | n + 1, s => by
    have ih := un_ok n (unN s)
    have e1 : (unN s).1.length = s.1.length + 1 := by simp [unN]
    have e2 : (unN s).2.1.length = s.2.1.length + 1 := by simp [unN]
    have e3 : (unN s).2.2 = (ustF (unitF s.2.2).2 (unitF s.2.2).1).2 := rfl
    have h1 := (unitF_ok s.2.2).2.2.2
    have h2 := ustF_at (unitF s.2.2).2 (unitF s.2.2).1
    unfold it
    rw [e1, e2, e3] at ih
    omega
theorem unitsF_ok (d : Dk) {m : Int} (hm : 0 ≤ m ∧ m ≤ 1000) : (unitsF d m).1.length ≤ m ∧ (unitsF d m).2.1.length = (unitsF d m).1.length ∧ (unitsF d m).2.2.at_ ≤ d.at_ + 1 + 24 * m := by
  have r1 := nxt_lt d (n := m + 1) (by omega)
  have a1 := nxtD_at d (m + 1)
  have h := un_ok (nxt d (m + 1)).toNat ([], [], nxtD d (m + 1))
  unfold unitsF
  simp only [List.length_nil] at h
  generalize it unN (nxt d (m + 1)).toNat ([], [], nxtD d (m + 1)) = W at h ⊢
  omega
set_option maxRecDepth 100000 in
set_option maxHeartbeats 8000000 in
theorem call61 (d : Dk) (hd : d.at_ ≤ 960000000) : PureCall Tryd.prog 61 [.pt 0 0 0] [.box (eDk 1 d)] ⟨.agg (eUt 0 (unitF d).1), [.box (eDk 1 (unitF d).2)], []⟩ := by
  have hok := unitF_ok d
  refine pure_call mix Tryd.func61 fits61 rfl ?_
  conv => whnf
  refine ⟨_, fun _ => call60 d 0 0 10 30 false (by omega) (by omega) (by omega) (by omega) (by omega), ?_⟩
  rw [show lst false = 0 from rfl, show curveS d 0 0 10 30 0 = unitC d from rfl]
  unfold unitF unitR unitE
  have hcl := hok.2.1.len
  have hc0 := hok.1
  have hcl : (unitC d).L.length ≤ 5 := hcl.2
  generalize unitC d = c at hc0 hcl ⊢
  conv => whnf
  refine ⟨_, fun _ => call_next 1 c.d 8 (by omega) (by omega), ?_⟩
  have r1 := nxt_lt c.d (n := 8) (by omega)
  have a1 := nxtD_at c.d 8
  generalize nxt c.d 8 = n1 at r1 ⊢
  generalize nxtD c.d 8 = e1 at a1 ⊢
  conv => whnf
  refine ⟨_, fun _ => call_next 1 e1 3 (by omega) (by omega), ?_⟩
  have r2 := nxt_lt e1 (n := 3) (by omega)
  have a2 := nxtD_at e1 3
  generalize nxt e1 3 = n2 at r2 ⊢
  generalize nxtD e1 3 = e2 at a2 ⊢
  conv => whnf
  refine ⟨_, fun _ => call_next 1 e2 3 (by omega) (by omega), ?_⟩
  have r3 := nxt_lt e2 (n := 3) (by omega)
  have a3 := nxtD_at e2 3
  generalize nxt e2 3 = n3 at r3 ⊢
  generalize nxtD e2 3 = e3 at a3 ⊢
  conv => whnf
  refine ⟨_, fun _ => call_next 1 e3 12 (by omega) (by omega), ?_⟩
  have r4 := nxt_lt e3 (n := 12) (by omega)
  have a4 := nxtD_at e3 12
  generalize nxt e3 12 = n4 at r4 ⊢
  generalize nxtD e3 12 = e4 at a4 ⊢
  conv => whnf
  refine ⟨rfl, ?_⟩
  conv => whnf
  refine ⟨_, fun _ => call_next 1 e4 3 (by omega) (by omega), ?_⟩
  have r5 := nxt_lt e4 (n := 3) (by omega)
  have a5 := nxtD_at e4 3
  obtain ⟨m0, hm0⟩ : ∃ m : Nat, (m : Int) = nxt e4 3 := ⟨(nxt e4 3).toNat, by omega⟩
  rw [← hm0] at r5 ⊢
  rw [Int.toNat_natCast]
  generalize nxtD e4 3 = e5 at a5 ⊢
  conv => whnf
  refine ⟨?_, ?_⟩
  · (try conv => whnf)
    (repeat' (first | exact True.intro | exact fun _ h => h | refine inR64_of ?_ ?_ | apply And.intro | refine maxLen_ge ?_)) <;> (first | omega | (dsimp only; omega))
  refine LSem.adoptF 48 3 1000000 165 2 2 _ rfl rfl rfl ?_
  refine LSem.loop (n := 43) mix (α := Nat × List Bnd × Dk) (fun s => s.1 + s.2.1.length = m0 ∧ it rghN s.1 s.2 = it rghN m0 ([], e5) ∧ s.2.2.at_ ≤ 970000000 + 2 * s.2.1.length)
    (fun s => [(0, .pt 0 0 0), (2, .pt 32 0 0), (3, .pt 48 0 0), (4, .int .i64 s.1)])
    (fun s => [(0, .box (eDk 1 s.2.2)), (32, .box [.nil 2, .int .i64 0, .int .i64 0, .nil 2, .int .i64 0, .int .i64 0]), (48, .box [.sl 0 2 c.L.length (fl ePt c.L), .int .i64 (1 + n1), .int .i64 (1 + n1 + n4), .os 1000000, .int .i64 n2, .int .i64 n3]),
      (1000000, .row 0 165 2 s.2.1.length (fl eBnd s.2.1))]) (fun s => s.1) (m0, [], e5) ?_ ?_ ?_
  · exact ⟨rfl, rfl, by dsimp only; omega⟩
  · refine ⟨rfl, rfl, ?_, ?_⟩
    all_goals repeat' (first | exact True.intro | refine leF_cons rfl ?_ ?_ | refine leS_cons rfl ?_ ?_ | (show PLe _ _ _ _; conv => whnf) | (show SLe _ _ _ _; conv => whnf) | (show PLeL _ _ _ _; conv => whnf) | apply And.intro | rfl | exact Nat.le_refl _ | exact fun _ _ => rfl | exact rowEq0 _ _)
  · intro s hs
    obtain ⟨m, l, e⟩ := s
    obtain ⟨k1, k2, k3⟩ := hs
    dsimp only at k1 k2 k3
    conv => whnf
    refine ⟨trivial, fun hc => ?_, fun hc => ?_⟩
    · replace hc := of_decide_eq_true hc
      obtain ⟨m, rfl⟩ : ∃ m', m = m' + 1 := ⟨m - 1, by
        have h : (0 : Int) < m := hc
        omega⟩
      have hst : it rghN m (l ++ [⟨nxt e 16, nxt e 16 + 1 + nxt (nxtD e 16) 5⟩], nxtD (nxtD e 16) 5) = it rghN m0 ([], e5) := k2
      conv => whnf
      refine ⟨_, fun _ => call_next 1 e 16 (by omega) (by omega), ?_⟩
      have q1 := nxt_lt e (n := 16) (by omega)
      have b1 := nxtD_at e 16
      generalize nxt e 16 = x1 at q1 hst ⊢
      generalize nxtD e 16 = e6 at b1 hst ⊢
      conv => whnf
      refine ⟨_, fun _ => call_next 1 e6 5 (by omega) (by omega), ?_⟩
      have q2 := nxt_lt e6 (n := 5) (by omega)
      have b2 := nxtD_at e6 5
      generalize nxt e6 5 = x2 at q2 hst ⊢
      generalize nxtD e6 5 = e7 at b2 hst ⊢
      have q := fl_push eBnd l ⟨x1, x1 + 1 + x2⟩
      have hxl : (l ++ [(⟨x1, x1 + 1 + x2⟩ : Bnd)]).length = l.length + 1 := by simp
      conv => whnf
      refine ⟨rfl, ?_⟩
      conv => whnf
      refine ⟨?_, (m, l ++ [⟨x1, x1 + 1 + x2⟩], e7), ⟨?_, hst, ?_⟩, ?_, rfl, rfl, ?_, ?_⟩
      · (try conv => whnf)
        (repeat' (first | exact True.intro | exact fun _ h => h | refine inR64_of ?_ ?_ | apply And.intro | refine maxLen_ge ?_)) <;> (first | omega | decide | (dsimp only; omega) | (dsimp only [List.length_cons, List.length_nil]; omega) | (intro hg; rw [hg]; rfl) | (intro hg hh; rw [hg, hh]; rfl) | (intro hg; simp [-List.getD_eq_getElem?_getD, -Int.default_eq_zero] at hg; first | omega | (refine inR64_of ?_ ?_ <;> omega) | (constructor <;> omega)) | (simp [-List.getD_eq_getElem?_getD, -Int.default_eq_zero]; done))
      · dsimp only; rw [hxl]; omega
      · dsimp only; rw [hxl]; omega
      · dsimp only; omega
      all_goals repeat' (first | exact True.intro | refine leF_cons rfl ?_ ?_ | refine leS_cons rfl ?_ ?_ | (show PLe _ _ _ _; conv => whnf) | (show SLe _ _ _ _; conv => whnf) | (show PLeL _ _ _ _; conv => whnf) | apply And.intro | rfl | exact Nat.le_refl _ | exact fun _ _ => rfl | exact rowEq0 _ _)
      all_goals first | exact q | (dsimp only; rw [hxl]; rfl) | (dsimp only; rw [hxl]; done) | (dsimp only; omega) | omega | skip
    · replace hc := of_decide_eq_false hc
      have h0 : m = 0 := by
        have h : ¬ (0 : Int) < m := hc
        omega
      subst h0
      have hp : (l, e) = it rghN m0 ([], e5) := k2
      rw [← hp]
      conv => whnf
      refine ⟨?_, [], ?_⟩
      · (try conv => whnf)
        (repeat' (first | exact True.intro | exact fun _ h => h | refine inR64_of ?_ ?_ | apply And.intro | refine maxLen_ge ?_)) <;> (first | omega | (dsimp only; omega))
      conv => whnf
      refine ⟨rfl, ?_, ?_, trivial⟩
      all_goals repeat' (first | exact True.intro | refine leF_cons rfl ?_ ?_ | refine leS_cons rfl ?_ ?_ | (show PLe _ _ _ _; conv => whnf) | (show SLe _ _ _ _; conv => whnf) | (show PLeL _ _ _ _; conv => whnf) | apply And.intro | rfl | exact Nat.le_refl _ | exact fun _ _ => rfl | exact rowEq0 _ _)
set_option maxRecDepth 100000 in
set_option maxHeartbeats 8000000 in
theorem call62 (τ : Nat) (d : Dk) (u : Ut) (hd : d.at_ ≤ 970000000) (hl : u.rough.length ≤ 4611686018427387904) : PureCall Tryd.prog 62 [.pt 0 0 0, .agg (eUt τ u)] [.box (eDk 1 d)] ⟨.agg (eUs (ustF d u).1), [.box (eDk 1 (ustF d u).2)], []⟩ := by
  refine pure_call mix Tryd.func62 fits62 rfl ?_
  unfold ustF
  dsimp only
  conv => whnf
  refine ⟨_, fun _ => call_next 1 d 5 (by omega) (by omega), ?_⟩
  have r1 := nxt_lt d (n := 5) (by omega)
  have a1 := nxtD_at d 5
  generalize nxt d 5 = n1 at r1 ⊢
  generalize nxtD d 5 = e1 at a1 ⊢
  conv => whnf
  refine ⟨_, fun _ => call_next 1 e1 7 (by omega) (by omega), ?_⟩
  have a2 := nxtD_at e1 7
  generalize nxtD e1 7 = e2 at a2 ⊢
  generalize hB : (nxt e1 7 == 6) = B
  conv => whnf
  refine ⟨_, fun _ => call78 _ u 1 hl, ?_⟩
  have hfl := flowsU_len u 1
  generalize (flowsU u 1).2 = E
  generalize (flowsU u 1).1 = l at hfl ⊢
  rw [hB]
  conv => whnf
  refine ⟨_, fun _ => call_next 1 e2 2 (by omega) (by omega), ?_⟩
  have a3 := nxtD_at e2 2
  by_cases h1 : (0 : Int) < l.length
  case neg =>
    rw [if_neg (fun h => h1 (by omega)), decide_eq_false h1]
    conv => whnf
    refine ⟨?_, fun hc => (by cases hc), fun _ => ?_⟩
    · (try conv => whnf)
      (repeat' (first | exact True.intro | exact fun _ h => h | refine inR64_of ?_ ?_ | apply And.intro | refine maxLen_ge ?_)) <;> (first | omega | decide | (dsimp only; omega) | (dsimp only [List.length_cons, List.length_nil]; omega) | (intro hg; rw [hg]; rfl) | (intro hg hh; rw [hg, hh]; rfl) | (intro hg; simp [-List.getD_eq_getElem?_getD, -Int.default_eq_zero] at hg; first | omega | (refine inR64_of ?_ ?_ <;> omega) | (constructor <;> omega)) | (simp [-List.getD_eq_getElem?_getD, -Int.default_eq_zero]; done))
    conv => whnf
    refine ⟨?_, [], ?_⟩
    · (try conv => whnf)
      (repeat' (first | exact True.intro | exact fun _ h => h | refine inR64_of ?_ ?_ | apply And.intro | refine maxLen_ge ?_)) <;> (first | omega | (dsimp only; omega))
    conv => whnf
    refine ⟨rfl, ?_, ?_, trivial⟩
    all_goals repeat' (first | exact True.intro | refine leF_cons rfl ?_ ?_ | refine leS_cons rfl ?_ ?_ | (show PLe _ _ _ _; conv => whnf) | (show SLe _ _ _ _; conv => whnf) | (show PLeL _ _ _ _; conv => whnf) | apply And.intro | rfl | exact Nat.le_refl _ | exact fun _ _ => rfl | exact rowEq0 _ _)
  rw [decide_eq_true h1]
  cases B with
  | true =>
    rw [if_neg (fun h => by cases h.2)]
    conv => whnf
    refine ⟨?_, fun hc => (by cases hc), fun _ => ?_⟩
    · (try conv => whnf)
      (repeat' (first | exact True.intro | exact fun _ h => h | refine inR64_of ?_ ?_ | apply And.intro | refine maxLen_ge ?_)) <;> (first | omega | decide | (dsimp only; omega) | (dsimp only [List.length_cons, List.length_nil]; omega) | (intro hg; rw [hg]; rfl) | (intro hg hh; rw [hg, hh]; rfl) | (intro hg; simp [-List.getD_eq_getElem?_getD, -Int.default_eq_zero] at hg; first | omega | (refine inR64_of ?_ ?_ <;> omega) | (constructor <;> omega)) | (simp [-List.getD_eq_getElem?_getD, -Int.default_eq_zero]; done))
    conv => whnf
    refine ⟨?_, [], ?_⟩
    · (try conv => whnf)
      (repeat' (first | exact True.intro | exact fun _ h => h | refine inR64_of ?_ ?_ | apply And.intro | refine maxLen_ge ?_)) <;> (first | omega | (dsimp only; omega))
    conv => whnf
    refine ⟨rfl, ?_, ?_, trivial⟩
    all_goals repeat' (first | exact True.intro | refine leF_cons rfl ?_ ?_ | refine leS_cons rfl ?_ ?_ | (show PLe _ _ _ _; conv => whnf) | (show SLe _ _ _ _; conv => whnf) | (show PLeL _ _ _ _; conv => whnf) | apply And.intro | rfl | exact Nat.le_refl _ | exact fun _ _ => rfl | exact rowEq0 _ _)
  | false =>
    rw [if_pos ⟨by omega, rfl⟩]
    generalize nxt e2 2 = n3
    generalize nxtD e2 2 = e3 at a3 ⊢
    conv => whnf
    refine ⟨?_, fun hc => ?_, fun hc => ?_⟩
    · (try conv => whnf)
      (repeat' (first | exact True.intro | exact fun _ h => h | refine inR64_of ?_ ?_ | apply And.intro | refine maxLen_ge ?_)) <;> (first | omega | decide | (dsimp only; omega) | (dsimp only [List.length_cons, List.length_nil]; omega) | (intro hg; rw [hg]; rfl) | (intro hg hh; rw [hg, hh]; rfl) | (intro hg; simp [-List.getD_eq_getElem?_getD, -Int.default_eq_zero] at hg; first | omega | (refine inR64_of ?_ ?_ <;> omega) | (constructor <;> omega)) | (simp [-List.getD_eq_getElem?_getD, -Int.default_eq_zero]; done))
    · have hc : n3 = 0 := beq_iff_eq.1 hc
      rw [if_pos hc]
      conv => whnf
      refine ⟨_, fun _ => call_next 1 e3 l.length (by omega) (by omega), ?_⟩
      have r4 := nxt_lt e3 h1
      generalize nxt e3 l.length = n4 at r4 ⊢
      generalize nxtD e3 l.length = e4
      conv => whnf
      refine ⟨?_, [], ?_⟩
      · (try conv => whnf)
        (repeat' (first | exact True.intro | exact fun _ h => h | refine inR64_of ?_ ?_ | apply And.intro | refine maxLen_ge ?_)) <;> (first | omega | (dsimp only; omega))
      conv => whnf
      refine ⟨rfl, ?_, ?_, trivial⟩
      all_goals repeat' (first | exact True.intro | refine leF_cons rfl ?_ ?_ | refine leS_cons rfl ?_ ?_ | (show PLe _ _ _ _; conv => whnf) | (show SLe _ _ _ _; conv => whnf) | (show PLeL _ _ _ _; conv => whnf) | apply And.intro | rfl | exact Nat.le_refl _ | exact fun _ _ => rfl | exact rowEq0 _ _)
    · have hc : ¬ n3 = 0 := beq_eq_false_iff_ne.1 hc
      rw [if_neg hc]
      conv => whnf
      refine ⟨?_, [], ?_⟩
      · (try conv => whnf)
        (repeat' (first | exact True.intro | exact fun _ h => h | refine inR64_of ?_ ?_ | apply And.intro | refine maxLen_ge ?_)) <;> (first | omega | (dsimp only; omega))
      conv => whnf
      refine ⟨rfl, ?_, ?_, trivial⟩
      all_goals repeat' (first | exact True.intro | refine leF_cons rfl ?_ ?_ | refine leS_cons rfl ?_ ?_ | (show PLe _ _ _ _; conv => whnf) | (show SLe _ _ _ _; conv => whnf) | (show PLeL _ _ _ _; conv => whnf) | apply And.intro | rfl | exact Nat.le_refl _ | exact fun _ _ => rfl | exact rowEq0 _ _)
set_option maxRecDepth 100000 in
set_option maxHeartbeats 8000000 in
theorem call50 (d : Dk) (m : Int) (hd : d.at_ ≤ 950000000) (hm : 0 ≤ m ∧ m ≤ 1000) : PureCall Tryd.prog 50 [.pt 0 0 0, .int .i64 m] [.box (eDk 1 d)]
    ⟨.tup [.sl 0 6 (unitsF d m).1.length (fl (eUt 0) (unitsF d m).1), .sl 0 3 (unitsF d m).2.1.length (fl eUs (unitsF d m).2.1)], [.box (eDk 1 (unitsF d m).2.2)], []⟩ := by
  refine pure_call mix Tryd.func50 fits50 rfl ?_
  conv => whnf
  refine ⟨_, fun _ => call_next 1 d (m + 1) (by omega) (by omega), ?_⟩
  have r0 := nxt_lt d (n := m + 1) (by omega)
  have a0 := nxtD_at d (m + 1)
  unfold unitsF
  obtain ⟨m0, hm0⟩ : ∃ m0 : Nat, (m0 : Int) = nxt d (m + 1) := ⟨(nxt d (m + 1)).toNat, by omega⟩
  rw [← hm0] at r0 ⊢
  rw [Int.toNat_natCast]
  generalize nxtD d (m + 1) = d0 at a0 ⊢
  conv => whnf
  refine ⟨?_, ?_⟩
  · (try conv => whnf)
    (repeat' (first | exact True.intro | exact fun _ h => h | refine inR64_of ?_ ?_ | apply And.intro | refine maxLen_ge ?_)) <;> (first | omega | (dsimp only; omega))
  refine LSem.adopt 6 1000000 139 6 6 rfl rfl ?_
  refine LSem.adopt 7 1000001 142 3 3 rfl rfl ?_
  refine LSem.loop (n := 32) mix (α := Nat × List Ut × List Us × Dk) (fun s => s.1 + s.2.1.length = m0 ∧ s.2.2.1.length = s.2.1.length ∧ it unN s.1 s.2 = it unN m0 ([], [], d0) ∧ s.2.2.2.at_ ≤ 950000001 + 24 * s.2.1.length)
    (fun s => [(0, .pt 0 0 0), (6, .os 1000000), (7, .os 1000001), (8, .int .i64 s.1)])
    (fun s => [(0, .box (eDk 1 s.2.2.2)), (1000000, .row 0 139 6 s.2.1.length (fl (eUt 0) s.2.1)), (1000001, .row 0 142 3 s.2.2.1.length (fl eUs s.2.2.1))]) (fun s => s.1) (m0, [], [], d0) ?_ ?_ ?_
  · exact ⟨rfl, rfl, rfl, by dsimp only; omega⟩
  · refine ⟨rfl, rfl, ?_, ?_⟩
    all_goals repeat' (first | exact True.intro | refine leF_cons rfl ?_ ?_ | refine leS_cons rfl ?_ ?_ | (show PLe _ _ _ _; conv => whnf) | (show SLe _ _ _ _; conv => whnf) | (show PLeL _ _ _ _; conv => whnf) | apply And.intro | rfl | exact Nat.le_refl _ | exact fun _ _ => rfl | exact rowEq0 _ _)
  · intro s hs
    obtain ⟨n, l, y, e⟩ := s
    obtain ⟨k1, k2, k3, k4⟩ := hs
    dsimp only at k1 k2 k3 k4
    conv => whnf
    refine ⟨trivial, fun hc => ?_, fun hc => ?_⟩
    · replace hc := of_decide_eq_true hc
      obtain ⟨n, rfl⟩ : ∃ n', n = n' + 1 := ⟨n - 1, by
        have h : (0 : Int) < n := hc
        omega⟩
      have hst : it unN n (l ++ [(unitF e).1], y ++ [(ustF (unitF e).2 (unitF e).1).1], (ustF (unitF e).2 (unitF e).1).2) = it unN m0 ([], [], d0) := k3
      have h1 := unitF_ok e
      conv => whnf
      refine ⟨_, fun _ => call61 e (by omega), ?_⟩
      generalize unitF e = U at h1 hst ⊢
      obtain ⟨u, e1⟩ := U
      obtain ⟨_, h2, h3, h4⟩ := h1
      dsimp only at h2 h3 h4 hst
      have h5 := ustF_at e1 u
      have q := fl_push (eUt 0) l u
      have hxl : (l ++ [u]).length = l.length + 1 := by simp
      conv => whnf
      refine ⟨_, fun _ => call62 _ e1 u (by omega) (by omega), ?_⟩
      generalize ustF e1 u = S at h5 hst ⊢
      have q2 := fl_push eUs y S.1
      have hyl : (y ++ [S.1]).length = y.length + 1 := by simp
      conv => whnf
      refine ⟨rfl, ?_⟩
      conv => whnf
      refine ⟨?_, (n, l ++ [u], y ++ [S.1], S.2), ⟨?_, ?_, hst, ?_⟩, ?_, rfl, rfl, ?_, ?_⟩
      · (try conv => whnf)
        (repeat' (first | exact True.intro | exact fun _ h => h | refine inR64_of ?_ ?_ | apply And.intro | refine maxLen_ge ?_)) <;> (first | omega | decide | (dsimp only; omega) | (dsimp only [List.length_cons, List.length_nil]; omega) | (intro hg; rw [hg]; rfl) | (intro hg hh; rw [hg, hh]; rfl) | (intro hg; simp [-List.getD_eq_getElem?_getD, -Int.default_eq_zero] at hg; first | omega | (refine inR64_of ?_ ?_ <;> omega) | (constructor <;> omega)) | (simp [-List.getD_eq_getElem?_getD, -Int.default_eq_zero]; done))
      · dsimp only; rw [hxl]; omega
      · dsimp only; rw [hxl, hyl]; omega
      · dsimp only; rw [hxl]; omega
      · dsimp only; omega
      all_goals repeat' (first | exact True.intro | refine leF_cons rfl ?_ ?_ | refine leS_cons rfl ?_ ?_ | (show PLe _ _ _ _; conv => whnf) | (show SLe _ _ _ _; conv => whnf) | (show PLeL _ _ _ _; conv => whnf) | apply And.intro | rfl | exact Nat.le_refl _ | exact fun _ _ => rfl | exact rowEq0 _ _)
      all_goals first | exact q | exact q2 | (dsimp only; rw [hxl]; rfl) | (dsimp only; rw [hyl]; rfl) | (dsimp only; rw [hxl]; done) | (dsimp only; rw [hyl]; done) | (dsimp only; omega) | omega | skip
    · replace hc := of_decide_eq_false hc
      have h0 : n = 0 := by
        have h : ¬ (0 : Int) < n := hc
        omega
      subst h0
      have hp : (l, y, e) = it unN m0 ([], [], d0) := k3
      rw [← hp]
      conv => whnf
      refine ⟨?_, [], ?_⟩
      · (try conv => whnf)
        (repeat' (first | exact True.intro | exact fun _ h => h | refine inR64_of ?_ ?_ | apply And.intro | refine maxLen_ge ?_)) <;> (first | omega | (dsimp only; omega))
      conv => whnf
      refine ⟨rfl, ?_, ?_, trivial⟩
      all_goals repeat' (first | exact True.intro | refine leF_cons rfl ?_ ?_ | refine leS_cons rfl ?_ ?_ | (show PLe _ _ _ _; conv => whnf) | (show SLe _ _ _ _; conv => whnf) | (show PLeL _ _ _ _; conv => whnf) | apply And.intro | rfl | exact Nat.le_refl _ | exact fun _ _ => rfl | exact rowEq0 _ _)
end Pv
end Go.Proofs.YtafnkpmoolbjjaaDoor
/- GATES AND DAMS that are made. -/
set_option linter.unusedSimpArgs false
set_option linter.unusedVariables false
namespace Go.Proofs.YtafnkpmoolbjjaaDoor
namespace Pv
def c63L1 : C := (.seq (.seq (.reg [⟨(some 16), 256, none, .mv (.t 5)⟩,
    ⟨(some 17), 272, none, .bi false .geq (.t 16) (.c (.int .i64 0))⟩])
  (.cond (.t 17) .skip (.exit 0)))
  (.seq (.block 1 (.seq (.drw [⟨(some 20), 320, none, .fa 0 (.t 3)⟩,
    ⟨(some 21), 336, none, .ld 1 false (.t 20)⟩,
    ⟨(some 22), 352, none, .mv (.t 4)⟩,
    ⟨(some 23), 368, none, .mv (.t 0)⟩,
    ⟨(some 24), 384, none, .call (.c (.fn (.func 60) [] [])) [(.t 23), (.c (.int .i64 0)), (.c (.int .i64 0)), (.c (.int .i64 6)), (.c (.int .i64 20)), (.c (.bool false))]⟩,
    ⟨(some 25), 400, none, .bd [(.int .i64 0), (.nil 2)] [(0, 1, (.t 22)), (1, 1, (.t 24))]⟩,
    ⟨(some 26), 416, none, .bs 168 2 [(.t 25)]⟩,
    ⟨(some 27), 432, none, .app 168 2 32 (.t 21) (.t 26)⟩,
    ⟨(some 28), 448, none, .fa 0 (.t 3)⟩,
    ⟨none, 0, none, .st 1 (.t 28) (.t 27)⟩]
    [(0, 2, 20), (0, 3, 20), (0, 4, 20), (0, 5, 20), (0, 6, 20), (1, 2, 21), (1, 3, 21), (1, 4, 21), (1, 5, 21), (1, 6, 21), (2, 3, 22), (2, 4, 22)])
  (.reg [⟨(some 29), 464, none, .mv (.t 4)⟩,
    ⟨(some 30), 480, none, .mv (.t 0)⟩,
    ⟨(some 31), 496, none, .call (.c (.fn (.func 26) [] [])) [(.t 30), (.c (.int .i64 40))]⟩,
    ⟨(some 32), 512, none, .bi false .add (.c (.int .i64 1)) (.t 31)⟩,
    ⟨(some 33), 528, none, .bi false .add (.t 29) (.t 32)⟩,
    ⟨(some 4), 64, none, .mv (.t 33)⟩])))
  (.reg [⟨(some 18), 288, none, .mv (.t 5)⟩,
    ⟨(some 19), 304, none, .bi false .sub (.t 18) (.c (.int .i64 1))⟩,
    ⟨(some 5), 80, none, .mv (.t 19)⟩])))
def c63 : C := (.seq (.reg [⟨(some 2), 32, none, .al [(.nil 2), (.int .i64 0), (.int .i64 0)]⟩])
  (.seq (.reg [⟨(some 6), 96, none, .mv (.t 0)⟩,
    ⟨(some 7), 112, none, .call (.c (.fn (.func 26) [] [])) [(.t 6), (.c (.int .i64 12))]⟩,
    ⟨(some 8), 128, none, .mv (.t 0)⟩,
    ⟨(some 9), 144, none, .call (.c (.fn (.func 26) [] [])) [(.t 8), (.c (.int .i64 6))]⟩,
    ⟨(some 10), 160, none, .bd [(.nil 2), (.int .i64 0), (.int .i64 0)] [(1, 1, (.t 7)), (2, 1, (.t 9))]⟩,
    ⟨(some 3), 48, none, .al [(.nil 2), (.int .i64 0), (.int .i64 0)]⟩,
    ⟨none, 0, none, .st 3 (.t 3) (.t 10)⟩])
  (.seq (.reg [⟨(some 11), 176, none, .mv (.t 0)⟩,
    ⟨(some 12), 192, none, .call (.c (.fn (.func 26) [] [])) [(.t 11), (.c (.int .i64 40))]⟩,
    ⟨(some 13), 208, none, .bi false .add (.c (.int .i64 90)) (.t 12)⟩,
    ⟨(some 4), 64, none, .mv (.t 13)⟩])
  (.seq (.seq (.reg [⟨(some 14), 224, none, .mv (.t 0)⟩,
    ⟨(some 15), 240, none, .call (.c (.fn (.func 26) [] [])) [(.t 14), (.c (.int .i64 3))]⟩,
    ⟨(some 5), 80, none, .mv (.t 15)⟩])
  (.block 0 (.loop c63L1)))
  (.seq (.reg [⟨(some 34), 544, none, .ld 3 true (.t 3)⟩,
    ⟨none, 0, none, .st 3 (.t 2) (.t 34)⟩])
  .ret)))))
theorem fits63 : fits Tryd.prog false Tryd.f63 1 35 [(2, some (3, true))] = some c63.er := by kernel_rfl
def c51L1 : C := (.seq (.seq (.reg [⟨(some 14), 224, none, .mv (.t 8)⟩,
    ⟨(some 15), 240, none, .bi false .gtr (.t 14) (.c (.int .i64 0))⟩])
  (.cond (.t 15) .skip (.exit 0)))
  (.seq (.block 1 (.seq (.reg [⟨(some 18), 288, none, .mv (.t 0)⟩,
    ⟨(some 19), 304, none, .call (.c (.fn (.func 63) [] [])) [(.t 18)]⟩,
    ⟨(some 9), 144, none, .al [(.nil 2), (.int .i64 0), (.int .i64 0)]⟩,
    ⟨none, 0, none, .st 3 (.t 9) (.t 19)⟩])
  (.drw [⟨(some 20), 320, none, .mv (.t 6)⟩,
    ⟨(some 21), 336, none, .ld 3 true (.t 9)⟩,
    ⟨(some 22), 352, none, .bs 146 3 [(.t 21)]⟩,
    ⟨(some 23), 368, none, .app 146 3 40 (.t 20) (.t 22)⟩,
    ⟨(some 24), 384, none, .mv (.t 7)⟩,
    ⟨(some 25), 400, none, .mv (.t 0)⟩,
    ⟨(some 26), 416, none, .fa 1 (.t 9)⟩,
    ⟨(some 27), 432, none, .ld 1 false (.t 26)⟩,
    ⟨(some 28), 448, none, .bi false .add (.t 27) (.c (.int .i64 1))⟩,
    ⟨(some 29), 464, none, .call (.c (.fn (.func 26) [] [])) [(.t 25), (.t 28)]⟩,
    ⟨(some 30), 480, none, .mv (.t 0)⟩,
    ⟨(some 31), 496, none, .call (.c (.fn (.func 26) [] [])) [(.t 30), (.c (.int .i64 7))]⟩,
    ⟨(some 32), 512, none, .bi false .eql (.t 31) (.c (.int .i64 6))⟩,
    ⟨(some 33), 528, none, .bd [(.int .i64 0), (.bool false)] [(0, 1, (.t 29)), (1, 1, (.t 32))]⟩,
    ⟨(some 34), 544, none, .bs 149 2 [(.t 33)]⟩,
    ⟨(some 35), 560, none, .app 149 2 16 (.t 24) (.t 34)⟩,
    ⟨(some 6), 96, none, .mv (.t 23)⟩,
    ⟨(some 7), 112, none, .mv (.t 35)⟩]
    [(0, 1, 20), (0, 2, 20), (0, 4, 20), (0, 5, 20), (0, 6, 20), (0, 7, 20), (0, 8, 20), (0, 10, 20), (1, 4, 21), (1, 5, 21), (1, 6, 21), (1, 7, 21), (1, 8, 21), (1, 10, 21), (2, 4, 22), (2, 5, 22), (2, 6, 22), (2, 7, 22), (2, 8, 22), (2, 10, 22), (3, 4, 23), (3, 5, 23), (3, 6, 23), (3, 7, 23), (3, 8, 23), (3, 10, 23), (4, 5, 24), (4, 6, 24), (4, 7, 24), (4, 8, 24), (4, 9, 24), (4, 10, 24), (4, 11, 24), (4, 12, 24), (4, 13, 24), (4, 14, 24), (5, 6, 25), (5, 7, 25), (5, 8, 25), (5, 10, 25), (6, 10, 26), (7, 10, 27), (8, 10, 28), (9, 10, 29)])))
  (.reg [⟨(some 16), 256, none, .mv (.t 8)⟩,
    ⟨(some 17), 272, none, .bi false .sub (.t 16) (.c (.int .i64 1))⟩,
    ⟨(some 8), 128, none, .mv (.t 17)⟩])))
def c51 : C := (.seq (.reg [⟨(some 4), 64, none, .mv (.c (.nil 3))⟩,
    ⟨(some 5), 80, none, .mv (.c (.nil 2))⟩])
  (.seq (.reg [⟨(some 6), 96, none, .mv (.c (.nil 3))⟩])
  (.seq (.reg [⟨(some 7), 112, none, .mv (.c (.nil 2))⟩])
  (.seq (.seq (.reg [⟨(some 10), 160, none, .mv (.t 0)⟩,
    ⟨(some 11), 176, none, .mv (.t 1)⟩,
    ⟨(some 12), 192, none, .bi false .add (.t 11) (.c (.int .i64 1))⟩,
    ⟨(some 13), 208, none, .call (.c (.fn (.func 26) [] [])) [(.t 10), (.t 12)]⟩,
    ⟨(some 8), 128, none, .mv (.t 13)⟩])
  (.block 0 (.loop c51L1)))
  (.seq (.reg [⟨(some 36), 576, none, .mv (.t 6)⟩,
    ⟨(some 37), 592, none, .mv (.t 7)⟩,
    ⟨(some 4), 64, none, .mv (.t 36)⟩,
    ⟨(some 5), 80, none, .mv (.t 37)⟩])
  .ret)))))
theorem fits51 : fits Tryd.prog false Tryd.f51 2 38 [(4, none), (5, none)] = some c51.er := by kernel_rfl
def c36 : C := (.seq (.reg [⟨(some 2), 32, none, .al [(.nil 2), (.int .i64 0), (.int .i64 0), (.int .i64 0), (.int .i64 0), (.int .i64 0), (.nil 6), (.nil 3), (.int .i64 0)]⟩,
    ⟨(some 3), 48, none, .al [(.int .i64 0), (.int .i64 0), (.nil 3), (.nil 2)]⟩])
  (.seq (.reg [⟨(some 8), 128, none, .mv (.t 0)⟩,
    ⟨(some 9), 144, none, .call (.c (.fn (.func 49) [] [])) [(.t 8)]⟩,
    ⟨(some 10), 160, none, .mv (.t 0)⟩,
    ⟨(some 11), 176, none, .call (.c (.fn (.func 26) [] [])) [(.t 10), (.c (.int .i64 4))]⟩,
    ⟨(some 12), 192, none, .bi false .add (.c (.int .i64 1)) (.t 11)⟩,
    ⟨(some 13), 208, none, .bd [(.nil 2), (.int .i64 0), (.int .i64 0), (.int .i64 0), (.int .i64 0), (.int .i64 0), (.nil 6), (.nil 3), (.int .i64 0)] [(0, 6, (.t 9)), (8, 1, (.t 12))]⟩,
    ⟨(some 4), 64, none, .al [(.nil 2), (.int .i64 0), (.int .i64 0), (.int .i64 0), (.int .i64 0), (.int .i64 0), (.nil 6), (.nil 3), (.int .i64 0)]⟩,
    ⟨none, 0, none, .st 9 (.t 4) (.t 13)⟩])
  (.seq (.reg [⟨(some 5), 80, none, .al [(.int .i64 0), (.int .i64 0), (.nil 3), (.nil 2)]⟩])
  (.seq (.reg [⟨(some 15), 240, none, .mv (.t 0)⟩,
    ⟨(some 16), 256, none, .call (.c (.fn (.func 50) [] [])) [(.t 15), (.c (.int .i64 2))]⟩,
    ⟨(some 14), 224, none, .mv (.t 16)⟩,
    ⟨(some 17), 272, none, .ex (.t 14) 0⟩,
    ⟨(some 18), 288, none, .ex (.t 14) 1⟩,
    ⟨(some 19), 304, none, .fa 6 (.t 4)⟩,
    ⟨none, 0, none, .st 1 (.t 19) (.t 17)⟩,
    ⟨(some 20), 320, none, .fa 2 (.t 5)⟩,
    ⟨none, 0, none, .st 1 (.t 20) (.t 18)⟩])
  (.seq (.reg [⟨(some 22), 352, none, .mv (.t 0)⟩,
    ⟨(some 23), 368, none, .call (.c (.fn (.func 51) [] [])) [(.t 22), (.c (.int .i64 2))]⟩,
    ⟨(some 21), 336, none, .mv (.t 23)⟩,
    ⟨(some 24), 384, none, .ex (.t 21) 0⟩,
    ⟨(some 25), 400, none, .ex (.t 21) 1⟩,
    ⟨(some 26), 416, none, .fa 7 (.t 4)⟩,
    ⟨none, 0, none, .st 1 (.t 26) (.t 24)⟩,
    ⟨(some 27), 432, none, .fa 3 (.t 5)⟩,
    ⟨none, 0, none, .st 1 (.t 27) (.t 25)⟩])
  (.seq (.reg [⟨(some 29), 464, none, .fa 0 (.t 4)⟩,
    ⟨(some 30), 480, none, .ld 6 true (.t 29)⟩,
    ⟨(some 31), 496, none, .fa 0 (.t 4)⟩,
    ⟨(some 32), 512, none, .fa 5 (.t 31)⟩,
    ⟨(some 33), 528, none, .ld 1 false (.t 32)⟩,
    ⟨(some 34), 544, none, .call (.c (.fn (.func 52) [] [])) [(.t 30), (.t 33)]⟩,
    ⟨(some 28), 448, none, .mv (.t 34)⟩,
    ⟨(some 35), 560, none, .ex (.t 28) 0⟩,
    ⟨(some 36), 576, none, .ex (.t 28) 1⟩,
    ⟨(some 6), 96, none, .mv (.t 35)⟩,
    ⟨(some 7), 112, none, .mv (.t 36)⟩])
  (.seq (.reg [⟨(some 37), 592, none, .mv (.t 0)⟩,
    ⟨(some 38), 608, none, .mv (.t 6)⟩,
    ⟨(some 39), 624, none, .bi false .add (.t 38) (.c (.int .i64 1))⟩,
    ⟨(some 40), 640, none, .call (.c (.fn (.func 26) [] [])) [(.t 37), (.t 39)]⟩,
    ⟨(some 41), 656, none, .fa 0 (.t 5)⟩,
    ⟨none, 0, none, .st 1 (.t 41) (.t 40)⟩])
  (.seq (.reg [⟨(some 42), 672, none, .mv (.t 0)⟩,
    ⟨(some 43), 688, none, .call (.c (.fn (.func 26) [] [])) [(.t 42), (.c (.int .i64 30))]⟩,
    ⟨(some 44), 704, none, .fa 1 (.t 5)⟩,
    ⟨none, 0, none, .st 1 (.t 44) (.t 43)⟩])
  (.seq (.drw [⟨(some 45), 720, none, .ld 9 true (.t 4)⟩,
    ⟨(some 46), 736, none, .ld 4 true (.t 5)⟩,
    ⟨none, 0, none, .st 9 (.t 2) (.t 45)⟩,
    ⟨none, 0, none, .st 4 (.t 3) (.t 46)⟩]
    [(0, 1, 45), (1, 2, 46)])
  .ret)))))))))
theorem fits36 : fits Tryd.prog false Tryd.f36 1 47 [(2, some (9, true)), (3, some (4, true))] = some c36.er := by kernel_rfl
structure Gr where
  lv : Int
  c : List Pt
  deriving Inhabited
structure Ga where
  rt : List Gr
  most : Int
  move : Int
  deriving Inhabited
structure Gs where
  op : Int
  jam : Bool
  deriving Inhabited
def eGr (τ : Nat) (r : Gr) : List PV := [.int .i64 r.lv, .sl τ 2 r.c.length (fl ePt r.c)]
def eGa (τ : Nat) (g : Ga) : List PV := [.sl τ 2 g.rt.length (fl (eGr 0) g.rt), .int .i64 g.most, .int .i64 g.move]
def eGs (s : Gs) : List PV := [.int .i64 s.op, .bool s.jam]
def gtN (s : List Gr × Int × Dk) : List Gr × Int × Dk := (s.1 ++ [⟨s.2.1, (curveS s.2.2 0 0 6 20 0).L⟩], s.2.1 + (1 + nxt (curveS s.2.2 0 0 6 20 0).d 40), nxtD (curveS s.2.2 0 0 6 20 0).d 40)
def gateE (d : Dk) : Dk := nxtD (nxtD d 12) 6
def gateR (d : Dk) : List Gr × Int × Dk := it gtN ((nxt (nxtD (gateE d) 40) 3).toNat + 1) ([], 90 + nxt (gateE d) 40, nxtD (nxtD (gateE d) 40) 3)
def gateF (d : Dk) : Ga × Dk := (⟨(gateR d).1, nxt d 12, nxt (nxtD d 12) 6⟩, (gateR d).2.2)
def gsN (s : List Ga × List Gs × Dk) : List Ga × List Gs × Dk :=
  (s.1 ++ [(gateF s.2.2).1], s.2.1 ++ [⟨nxt (gateF s.2.2).2 ((gateF s.2.2).1.most + 1), nxt (nxtD (gateF s.2.2).2 ((gateF s.2.2).1.most + 1)) 7 == 6⟩], nxtD (nxtD (gateF s.2.2).2 ((gateF s.2.2).1.most + 1)) 7)
def gatesF (d : Dk) (m : Int) : List Ga × List Gs × Dk := it gsN (nxt d (m + 1)).toNat ([], [], nxtD d (m + 1))
theorem gt_ok : ∀ (n : Nat) (s : List Gr × Int × Dk), (it gtN n s).1.length = s.1.length + n ∧ (it gtN n s).2.2.at_ ≤ s.2.2.at_ + 10 * n
  | 0, s => ⟨rfl, Nat.le_refl _⟩
  | n + 1, s => by
    have ih := gt_ok n (gtN s)
    have e1 : (gtN s).1.length = s.1.length + 1 := by simp [gtN]
    have e2 : (gtN s).2.2 = nxtD (curveS s.2.2 0 0 6 20 0).d 40 := by unfold gtN; dsimp only
    have h := (curve_made s.2.2 (x := 0) (y := 0) (dx := 6) (dy := 20) (least := 0) (by omega) (by omega) (by omega) (by omega) (by omega)).2
    have a := nxtD_at (curveS s.2.2 0 0 6 20 0).d 40
    unfold it
    rw [e1, e2] at ih
    generalize it gtN n (gtN s) = W at ih ⊢
    generalize nxtD (curveS s.2.2 0 0 6 20 0).d 40 = X at ih a
    generalize curveS s.2.2 0 0 6 20 0 = Y at h a
    omega
theorem gateE_at (d : Dk) : (gateE d).at_ ≤ d.at_ + 2 := by
  unfold gateE
  have a1 := nxtD_at d 12
  generalize nxtD d 12 = e1 at a1 ⊢
  have a2 := nxtD_at e1 6
  omega
theorem gateR_ok (d : Dk) : (gateR d).2.2.at_ ≤ d.at_ + 40 := by
  have h := (gt_ok ((nxt (nxtD (gateE d) 40) 3).toNat + 1) ([], 90 + nxt (gateE d) 40, nxtD (nxtD (gateE d) 40) 3)).2
  have hu : gateR d = it gtN ((nxt (nxtD (gateE d) 40) 3).toNat + 1) ([], 90 + nxt (gateE d) 40, nxtD (nxtD (gateE d) 40) 3) := by unfold gateR; dsimp only
  rw [← hu] at h
  have h0 := gateE_at d
  clear hu
  dsimp only at h
  generalize gateR d = R at h ⊢
  generalize gateE d = e at h h0
  have a1 := nxtD_at e 40
  generalize nxtD e 40 = e1 at a1 h
  have r2 := nxt_lt e1 (n := 3) (by omega)
  have a2 := nxtD_at e1 3
  generalize nxt e1 3 = x at r2 h
  generalize nxtD e1 3 = e2 at a2 h
  omega
theorem gateF_d (d : Dk) : (gateF d).2 = (gateR d).2.2 := by unfold gateF; dsimp only
theorem gateF_most (d : Dk) : (gateF d).1.most = nxt d 12 := by unfold gateF; dsimp only
theorem gateF_ok (d : Dk) : (gateF d).2.at_ ≤ d.at_ + 40 ∧ 0 ≤ (gateF d).1.most ∧ (gateF d).1.most ≤ 11 := by
  have h := gateR_ok d
  have r := nxt_lt d (n := 12) (by omega)
  rw [gateF_d, gateF_most]
  generalize gateR d = R at h ⊢
  omega
theorem gs_ok : ∀ (n : Nat) (s : List Ga × List Gs × Dk), (it gsN n s).1.length = s.1.length + n ∧ (it gsN n s).2.1.length = s.2.1.length + n ∧ (it gsN n s).2.2.at_ ≤ s.2.2.at_ + 42 * n
  | 0, s => ⟨rfl, rfl, Nat.le_refl _⟩
  | n + 1, s => by
    have ih := gs_ok n (gsN s)
    have e1 : (gsN s).1.length = s.1.length + 1 := by simp [gsN]
    have e2 : (gsN s).2.1.length = s.2.1.length + 1 := by simp [gsN]
    have e3 : (gsN s).2.2 = nxtD (nxtD (gateF s.2.2).2 ((gateF s.2.2).1.most + 1)) 7 := by unfold gsN; dsimp only
    have h1 := (gateF_ok s.2.2).1
    have a1 := nxtD_at (gateF s.2.2).2 ((gateF s.2.2).1.most + 1)
    have a2 := nxtD_at (nxtD (gateF s.2.2).2 ((gateF s.2.2).1.most + 1)) 7
    unfold it
    rw [e1, e2, e3] at ih
    generalize it gsN n (gsN s) = W at ih ⊢
    generalize nxtD (nxtD (gateF s.2.2).2 ((gateF s.2.2).1.most + 1)) 7 = X at ih a2
    generalize nxtD (gateF s.2.2).2 ((gateF s.2.2).1.most + 1) = Y at a1 a2
    generalize gateF s.2.2 = Z at h1 a1
    omega
theorem gatesF_ok (d : Dk) {m : Int} (hm : 0 ≤ m ∧ m ≤ 1000) : (gatesF d m).1.length ≤ m ∧ (gatesF d m).2.1.length = (gatesF d m).1.length ∧ (gatesF d m).2.2.at_ ≤ d.at_ + 1 + 42 * m := by
  have r1 := nxt_lt d (n := m + 1) (by omega)
  have a1 := nxtD_at d (m + 1)
  have h := gs_ok (nxt d (m + 1)).toNat ([], [], nxtD d (m + 1))
  unfold gatesF
  simp only [List.length_nil] at h
  generalize it gsN (nxt d (m + 1)).toNat ([], [], nxtD d (m + 1)) = W at h ⊢
  omega
set_option maxRecDepth 100000 in
set_option maxHeartbeats 8000000 in
theorem call63 (d : Dk) (hd : d.at_ ≤ 960000000) : PureCall Tryd.prog 63 [.pt 0 0 0] [.box (eDk 1 d)] ⟨.agg (eGa 0 (gateF d).1), [.box (eDk 1 (gateF d).2)], []⟩ := by
  refine pure_call mix Tryd.func63 fits63 rfl ?_
  unfold gateF gateR gateE
  dsimp only
  conv => whnf
  refine ⟨_, fun _ => call_next 1 d 12 (by omega) (by omega), ?_⟩
  have r1 := nxt_lt d (n := 12) (by omega)
  have a1 := nxtD_at d 12
  generalize nxt d 12 = n1 at r1 ⊢
  generalize nxtD d 12 = e1 at a1 ⊢
  conv => whnf
  refine ⟨_, fun _ => call_next 1 e1 6 (by omega) (by omega), ?_⟩
  have r2 := nxt_lt e1 (n := 6) (by omega)
  have a2 := nxtD_at e1 6
  generalize nxt e1 6 = n2 at r2 ⊢
  generalize nxtD e1 6 = e2 at a2 ⊢
  conv => whnf
  refine ⟨_, fun _ => call_next 1 e2 40 (by omega) (by omega), ?_⟩
  have r3 := nxt_lt e2 (n := 40) (by omega)
  have a3 := nxtD_at e2 40
  generalize nxt e2 40 = n3 at r3 ⊢
  generalize nxtD e2 40 = e3 at a3 ⊢
  conv => whnf
  refine ⟨_, fun _ => call_next 1 e3 3 (by omega) (by omega), ?_⟩
  have r4 := nxt_lt e3 (n := 3) (by omega)
  have a4 := nxtD_at e3 3
  obtain ⟨m0, hm0⟩ : ∃ m : Nat, (m : Int) = nxt e3 3 := ⟨(nxt e3 3).toNat, by omega⟩
  rw [← hm0] at r4 ⊢
  rw [Int.toNat_natCast]
  generalize nxtD e3 3 = e4 at a4 ⊢
  obtain ⟨R0, hR0⟩ : ∃ R0, R0 = it gtN (m0 + 1) ([], 90 + n3, e4) := ⟨_, rfl⟩
  rw [← hR0]
  conv => whnf
  refine ⟨?_, ?_⟩
  · (try conv => whnf)
    (repeat' (first | exact True.intro | exact fun _ h => h | refine inR64_of ?_ ?_ | apply And.intro | refine maxLen_ge ?_)) <;> (first | omega | (dsimp only; omega))
  refine LSem.adoptF 48 0 1000000 168 2 2 _ rfl rfl rfl ?_
  refine LSem.loop (n := 35) mix (α := Nat × List Gr × Int × Dk) (fun s => s.1 + s.2.1.length = m0 + 1 ∧ it gtN s.1 s.2 = R0 ∧ s.2.2.2.at_ ≤ 970000000 + 10 * s.2.1.length ∧ (0 ≤ s.2.2.1 ∧ s.2.2.1 ≤ 200 + 40 * s.2.1.length))
    (fun s => [(0, .pt 0 0 0), (2, .pt 32 0 0), (3, .pt 48 0 0), (4, .int .i64 s.2.2.1), (5, .int .i64 ((s.1 : Int) - 1))])
    (fun s => [(0, .box (eDk 1 s.2.2.2)), (32, .box [.nil 2, .int .i64 0, .int .i64 0]), (48, .box [.os 1000000, .int .i64 n1, .int .i64 n2]), (1000000, .row 0 168 2 s.2.1.length (fl (eGr 0) s.2.1))]) (fun s => s.1) (m0 + 1, [], 90 + n3, e4) ?_ ?_ ?_
  · exact ⟨rfl, hR0.symm, by dsimp only; omega, by dsimp only; simp only [List.length_nil]; omega⟩
  · refine ⟨rfl, rfl, ?_, ?_⟩
    all_goals repeat' (first | exact True.intro | refine leF_cons rfl ?_ ?_ | refine leS_cons rfl ?_ ?_ | (show PLe _ _ _ _; conv => whnf) | (show SLe _ _ _ _; conv => whnf) | (show PLeL _ _ _ _; conv => whnf) | apply And.intro | rfl | exact Nat.le_refl _ | exact fun _ _ => rfl | exact rowEq0 _ _)
    all_goals first | omega | (dsimp only; omega) | skip
  · intro s hs
    obtain ⟨m, l, lv, e⟩ := s
    obtain ⟨k1, k2, k3, k4⟩ := hs
    dsimp only at k1 k2 k3 k4
    conv => whnf
    refine ⟨trivial, fun hc => ?_, fun hc => ?_⟩
    · replace hc := of_decide_eq_true hc
      obtain ⟨m, rfl⟩ : ∃ m', m = m' + 1 := ⟨m - 1, by
        have h : (0 : Int) ≤ (m : Int) - 1 := hc
        omega⟩
      have hst : it gtN m (l ++ [⟨lv, (curveS e 0 0 6 20 0).L⟩], lv + (1 + nxt (curveS e 0 0 6 20 0).d 40), nxtD (curveS e 0 0 6 20 0).d 40) = R0 := k2
      have hcm := (curve_made e (x := 0) (y := 0) (dx := 6) (dy := 20) (least := 0) (by omega) (by omega) (by omega) (by omega) (by omega))
      conv => whnf
      refine ⟨_, fun _ => call60 e 0 0 6 20 false (by omega) (by omega) (by omega) (by omega) (by omega), ?_⟩
      rw [show lst false = 0 from rfl]
      generalize curveS e 0 0 6 20 0 = c at hst hcm ⊢
      obtain ⟨hcm, hcd⟩ := hcm
      have hcl := hcm.len
      have q := fl_push (eGr 0) l ⟨lv, c.L⟩
      have hxl : (l ++ [(⟨lv, c.L⟩ : Gr)]).length = l.length + 1 := by simp
      conv => whnf
      refine ⟨rfl, ?_⟩
      conv => whnf
      refine ⟨_, fun _ => call_next 1 c.d 40 (by omega) (by omega), ?_⟩
      have r5 := nxt_lt c.d (n := 40) (by omega)
      have a5 := nxtD_at c.d 40
      generalize nxt c.d 40 = n5 at r5 hst ⊢
      generalize nxtD c.d 40 = e5 at a5 hst ⊢
      conv => whnf
      refine ⟨?_, (m, l ++ [⟨lv, c.L⟩], lv + (1 + n5), e5), ⟨?_, hst, ?_, ?_⟩, ?_, rfl, rfl, ?_, ?_⟩
      · (try conv => whnf)
        (repeat' (first | exact True.intro | exact fun _ h => h | refine inR64_of ?_ ?_ | apply And.intro | refine maxLen_ge ?_)) <;> (first | omega | decide | (dsimp only; omega) | (dsimp only [List.length_cons, List.length_nil]; omega) | (intro hg; rw [hg]; rfl) | (intro hg hh; rw [hg, hh]; rfl) | (intro hg; simp [-List.getD_eq_getElem?_getD, -Int.default_eq_zero] at hg; first | omega | (refine inR64_of ?_ ?_ <;> omega) | (constructor <;> omega)) | (simp [-List.getD_eq_getElem?_getD, -Int.default_eq_zero]; done))
      · dsimp only; rw [hxl]; omega
      · dsimp only; rw [hxl]; omega
      · dsimp only; rw [hxl]; omega
      · dsimp only; omega
      all_goals repeat' (first | exact True.intro | refine leF_cons rfl ?_ ?_ | refine leS_cons rfl ?_ ?_ | (show PLe _ _ _ _; conv => whnf) | (show SLe _ _ _ _; conv => whnf) | (show PLeL _ _ _ _; conv => whnf) | apply And.intro | rfl | exact Nat.le_refl _ | exact fun _ _ => rfl | exact rowEq0 _ _)
      all_goals first | exact q | (dsimp only; rw [hxl]; rfl) | (dsimp only; rw [hxl]; done) | (dsimp only; omega) | omega | skip
    · replace hc := of_decide_eq_false hc
      have h0 : m = 0 := by
        have h : ¬ (0 : Int) ≤ (m : Int) - 1 := hc
        omega
      subst h0
      have hp : (l, lv, e) = R0 := k2
      rw [← hp]
      conv => whnf
      refine ⟨?_, [], ?_⟩
      · (try conv => whnf)
        (repeat' (first | exact True.intro | exact fun _ h => h | refine inR64_of ?_ ?_ | apply And.intro | refine maxLen_ge ?_)) <;> (first | omega | (dsimp only; omega))
      conv => whnf
      refine ⟨rfl, ?_, ?_, trivial⟩
      all_goals repeat' (first | exact True.intro | refine leF_cons rfl ?_ ?_ | refine leS_cons rfl ?_ ?_ | (show PLe _ _ _ _; conv => whnf) | (show SLe _ _ _ _; conv => whnf) | (show PLeL _ _ _ _; conv => whnf) | apply And.intro | rfl | exact Nat.le_refl _ | exact fun _ _ => rfl | exact rowEq0 _ _)
set_option maxRecDepth 100000 in
set_option maxHeartbeats 8000000 in
theorem call51 (d : Dk) (m : Int) (hd : d.at_ ≤ 950000000) (hm : 0 ≤ m ∧ m ≤ 1000) : PureCall Tryd.prog 51 [.pt 0 0 0, .int .i64 m] [.box (eDk 1 d)]
    ⟨.tup [.sl 0 3 (gatesF d m).1.length (fl (eGa 0) (gatesF d m).1), .sl 0 2 (gatesF d m).2.1.length (fl eGs (gatesF d m).2.1)], [.box (eDk 1 (gatesF d m).2.2)], []⟩ := by
  refine pure_call mix Tryd.func51 fits51 rfl ?_
  conv => whnf
  refine ⟨_, fun _ => call_next 1 d (m + 1) (by omega) (by omega), ?_⟩
  have r0 := nxt_lt d (n := m + 1) (by omega)
  have a0 := nxtD_at d (m + 1)
  unfold gatesF
  obtain ⟨m0, hm0⟩ : ∃ m0 : Nat, (m0 : Int) = nxt d (m + 1) := ⟨(nxt d (m + 1)).toNat, by omega⟩
  rw [← hm0] at r0 ⊢
  rw [Int.toNat_natCast]
  generalize nxtD d (m + 1) = d0 at a0 ⊢
  obtain ⟨R0, hR0⟩ : ∃ R0, R0 = it gsN m0 ([], [], d0) := ⟨_, rfl⟩
  rw [← hR0]
  conv => whnf
  refine ⟨?_, ?_⟩
  · (try conv => whnf)
    (repeat' (first | exact True.intro | exact fun _ h => h | refine inR64_of ?_ ?_ | apply And.intro | refine maxLen_ge ?_)) <;> (first | omega | (dsimp only; omega))
  refine LSem.adopt 6 1000000 146 3 3 rfl rfl ?_
  refine LSem.adopt 7 1000001 149 2 2 rfl rfl ?_
  refine LSem.loop (n := 38) mix (α := Nat × List Ga × List Gs × Dk) (fun s => s.1 + s.2.1.length = m0 ∧ s.2.2.1.length = s.2.1.length ∧ it gsN s.1 s.2 = R0 ∧ s.2.2.2.at_ ≤ 950000001 + 42 * s.2.1.length)
    (fun s => [(0, .pt 0 0 0), (6, .os 1000000), (7, .os 1000001), (8, .int .i64 s.1)])
    (fun s => [(0, .box (eDk 1 s.2.2.2)), (1000000, .row 0 146 3 s.2.1.length (fl (eGa 0) s.2.1)), (1000001, .row 0 149 2 s.2.2.1.length (fl eGs s.2.2.1))]) (fun s => s.1) (m0, [], [], d0) ?_ ?_ ?_
  · exact ⟨rfl, rfl, hR0.symm, by dsimp only; omega⟩
  · refine ⟨rfl, rfl, ?_, ?_⟩
    all_goals repeat' (first | exact True.intro | refine leF_cons rfl ?_ ?_ | refine leS_cons rfl ?_ ?_ | (show PLe _ _ _ _; conv => whnf) | (show SLe _ _ _ _; conv => whnf) | (show PLeL _ _ _ _; conv => whnf) | apply And.intro | rfl | exact Nat.le_refl _ | exact fun _ _ => rfl | exact rowEq0 _ _)
  · intro s hs
    obtain ⟨n, l, y, e⟩ := s
    obtain ⟨k1, k2, k3, k4⟩ := hs
    dsimp only at k1 k2 k3 k4
    conv => whnf
    refine ⟨trivial, fun hc => ?_, fun hc => ?_⟩
    · replace hc := of_decide_eq_true hc
      obtain ⟨n, rfl⟩ : ∃ n', n = n' + 1 := ⟨n - 1, by
        have h : (0 : Int) < n := hc
        omega⟩
      have hst : it gsN n (l ++ [(gateF e).1], y ++ [⟨nxt (gateF e).2 ((gateF e).1.most + 1), nxt (nxtD (gateF e).2 ((gateF e).1.most + 1)) 7 == 6⟩], nxtD (nxtD (gateF e).2 ((gateF e).1.most + 1)) 7) = R0 := k3
      have h1 := gateF_ok e
      conv => whnf
      refine ⟨_, fun _ => call63 e (by omega), ?_⟩
      generalize gateF e = U at h1 hst ⊢
      obtain ⟨u, e1⟩ := U
      dsimp only at h1 hst
      have q := fl_push (eGa 0) l u
      have hxl : (l ++ [u]).length = l.length + 1 := by simp
      conv => whnf
      refine ⟨_, fun _ => call_next 1 e1 (u.most + 1) (by omega) (by omega), ?_⟩
      have a1 := nxtD_at e1 (u.most + 1)
      generalize nxt e1 (u.most + 1) = n1 at hst ⊢
      generalize nxtD e1 (u.most + 1) = e2 at a1 hst ⊢
      conv => whnf
      refine ⟨_, fun _ => call_next 1 e2 7 (by omega) (by omega), ?_⟩
      have a2 := nxtD_at e2 7
      have hB : (nxt e2 7 == 6) = (nxt e2 7 == 6) := rfl
      generalize nxtD e2 7 = e3 at a2 hst ⊢
      generalize nxt e2 7 = n2 at hst ⊢
      have q2 := fl_push eGs y ⟨n1, n2 == 6⟩
      have hyl : (y ++ [(⟨n1, n2 == 6⟩ : Gs)]).length = y.length + 1 := by simp
      conv => whnf
      refine ⟨rfl, ?_⟩
      conv => whnf
      refine ⟨?_, (n, l ++ [u], y ++ [⟨n1, n2 == 6⟩], e3), ⟨?_, ?_, hst, ?_⟩, ?_, rfl, rfl, ?_, ?_⟩
      · (try conv => whnf)
        (repeat' (first | exact True.intro | exact fun _ h => h | refine inR64_of ?_ ?_ | apply And.intro | refine maxLen_ge ?_)) <;> (first | omega | decide | (dsimp only; omega) | (dsimp only [List.length_cons, List.length_nil]; omega) | (intro hg; rw [hg]; rfl) | (intro hg hh; rw [hg, hh]; rfl) | (intro hg; simp [-List.getD_eq_getElem?_getD, -Int.default_eq_zero] at hg; first | omega | (refine inR64_of ?_ ?_ <;> omega) | (constructor <;> omega)) | (simp [-List.getD_eq_getElem?_getD, -Int.default_eq_zero]; done))
      · dsimp only; rw [hxl]; omega
      · dsimp only; rw [hxl, hyl]; omega
      · dsimp only; rw [hxl]; omega
      · dsimp only; omega
      all_goals repeat' (first | exact True.intro | refine leF_cons rfl ?_ ?_ | refine leS_cons rfl ?_ ?_ | (show PLe _ _ _ _; conv => whnf) | (show SLe _ _ _ _; conv => whnf) | (show PLeL _ _ _ _; conv => whnf) | apply And.intro | rfl | exact Nat.le_refl _ | exact fun _ _ => rfl | exact rowEq0 _ _)
      all_goals first | exact q | exact q2 | (dsimp only; rw [hxl]; rfl) | (dsimp only; rw [hyl]; rfl) | (dsimp only; rw [hxl]; done) | (dsimp only; rw [hyl]; done) | (dsimp only; omega) | omega | skip
    · replace hc := of_decide_eq_false hc
      have h0 : n = 0 := by
        have h : ¬ (0 : Int) < n := hc
        omega
      subst h0
      have hp : (l, y, e) = R0 := k3
      rw [← hp]
      conv => whnf
      refine ⟨?_, [], ?_⟩
      · (try conv => whnf)
        (repeat' (first | exact True.intro | exact fun _ h => h | refine inR64_of ?_ ?_ | apply And.intro | refine maxLen_ge ?_)) <;> (first | omega | (dsimp only; omega))
      conv => whnf
      refine ⟨rfl, ?_, ?_, trivial⟩
      all_goals repeat' (first | exact True.intro | refine leF_cons rfl ?_ ?_ | refine leS_cons rfl ?_ ?_ | (show PLe _ _ _ _; conv => whnf) | (show SLe _ _ _ _; conv => whnf) | (show PLeL _ _ _ _; conv => whnf) | apply And.intro | rfl | exact Nat.le_refl _ | exact fun _ _ => rfl | exact rowEq0 _ _)
/-! ### dams -/
structure Dm where
  r : Rv
  us : List Ut
  gs : List Ga
  grain : Int
  deriving Inhabited
structure Ds where
  vol : Int
  rel : Int
  us : List Us
  gs : List Gs
  deriving Inhabited
def eDm (τ : Nat) (x : Dm) : List PV := [.sl τ 2 x.r.st.length (fl ePt x.r.st), .int .i64 x.r.dead, .int .i64 x.r.low, .int .i64 x.r.full, .int .i64 x.r.sur, .int .i64 x.r.crest,
  .sl τ 6 x.us.length (fl (eUt 0) x.us), .sl τ 3 x.gs.length (fl (eGa 0) x.gs), .int .i64 x.grain]
def eDs (τ : Nat) (s : Ds) : List PV := [.int .i64 s.vol, .int .i64 s.rel, .sl τ 3 s.us.length (fl eUs s.us), .sl τ 2 s.gs.length (fl eGs s.gs)]
def damF (d : Dk) : Dm × Ds × Dk :=
  let R := resF d
  let U := unitsF (nxtD R.2 4) 2
  let G := gatesF U.2.2 2
  let v := (volF R.1 R.1.crest).1 + 1
  (⟨R.1, U.1, G.1, 1 + nxt R.2 4⟩, ⟨nxt G.2.2 v, nxt (nxtD G.2.2 v) 30, U.2.1, G.2.1⟩, nxtD (nxtD G.2.2 v) 30)
theorem damF_at (d : Dk) : (damF d).2.2.at_ ≤ d.at_ + 200 := by
  unfold damF
  dsimp only
  have h1 := resF_at d
  generalize resF d = R at h1 ⊢
  have a1 := nxtD_at R.2 4
  generalize nxtD R.2 4 = e at a1 ⊢
  have h2 := (unitsF_ok e (m := 2) (by omega)).2.2
  generalize unitsF e 2 = U at h2 ⊢
  have h3 := (gatesF_ok U.2.2 (m := 2) (by omega)).2.2
  generalize gatesF U.2.2 2 = G at h3 ⊢
  have a2 := nxtD_at G.2.2 ((volF R.1 R.1.crest).1 + 1)
  generalize nxtD G.2.2 ((volF R.1 R.1.crest).1 + 1) = e2 at a2 ⊢
  have a3 := nxtD_at e2 30
  omega
set_option maxRecDepth 100000 in
set_option maxHeartbeats 8000000 in
theorem call36 (d : Dk) (hd : d.at_ ≤ 940000000) : PureCall Tryd.prog 36 [.pt 0 0 0] [.box (eDk 1 d)] ⟨.tup [.agg (eDm 0 (damF d).1), .agg (eDs 0 (damF d).2.1)], [.box (eDk 1 (damF d).2.2)], []⟩ := by
  refine pure_call mix Tryd.func36 fits36 rfl ?_
  unfold damF
  dsimp only
  conv => whnf
  refine ⟨_, fun _ => call49 d (by omega), ?_⟩
  have h1 := resF_at d
  generalize resF d = R at h1 ⊢
  obtain ⟨r, e0⟩ := R
  dsimp only at h1 ⊢
  conv => whnf
  refine ⟨_, fun _ => call_next 1 e0 4 (by omega) (by omega), ?_⟩
  have r1 := nxt_lt e0 (n := 4) (by omega)
  have a1 := nxtD_at e0 4
  generalize nxt e0 4 = n1 at r1 ⊢
  generalize nxtD e0 4 = e at a1 ⊢
  conv => whnf
  refine ⟨_, fun _ => call50 e 2 (by omega) (by omega), ?_⟩
  have h2 := unitsF_ok e (m := 2) (by omega)
  generalize unitsF e 2 = U at h2 ⊢
  obtain ⟨us, uss, e1⟩ := U
  dsimp only at h2 ⊢
  conv => whnf
  refine ⟨_, fun _ => call51 e1 2 (by omega) (by omega), ?_⟩
  have h3 := gatesF_ok e1 (m := 2) (by omega)
  generalize gatesF e1 2 = G at h3 ⊢
  obtain ⟨gs, gss, e2⟩ := G
  dsimp only at h3 ⊢
  conv => whnf
  refine ⟨_, fun _ => call52 _ r r.crest, ?_⟩
  have hv := volF_rng r r.crest
  generalize (volF r r.crest).2 = ev
  generalize (volF r r.crest).1 = v at hv ⊢
  conv => whnf
  refine ⟨_, fun _ => call_next 1 e2 (v + 1) (by omega) (by omega), ?_⟩
  have a4 := nxtD_at e2 (v + 1)
  generalize nxt e2 (v + 1) = n4
  generalize nxtD e2 (v + 1) = e3 at a4 ⊢
  conv => whnf
  refine ⟨_, fun _ => call_next 1 e3 30 (by omega) (by omega), ?_⟩
  conv => whnf
  refine ⟨rfl, ?_⟩
  conv => whnf
  refine ⟨?_, [], ?_⟩
  · (try conv => whnf)
    (repeat' (first | exact True.intro | exact fun _ h => h | refine inR64_of ?_ ?_ | apply And.intro | refine maxLen_ge ?_)) <;> (first | omega | (dsimp only; omega))
  conv => whnf
  refine ⟨rfl, ?_, ?_, trivial⟩
  all_goals repeat' (first | exact True.intro | refine leF_cons rfl ?_ ?_ | refine leS_cons rfl ?_ ?_ | (show PLe _ _ _ _; conv => whnf) | (show SLe _ _ _ _; conv => whnf) | (show PLeL _ _ _ _; conv => whnf) | apply And.intro | rfl | exact Nat.le_refl _ | exact fun _ _ => rfl | exact rowEq0 _ _)
end Pv
end Go.Proofs.YtafnkpmoolbjjaaDoor
/- RIVERS AND CASCADES that are made. -/
set_option linter.unusedSimpArgs false
set_option linter.unusedVariables false
namespace Go.Proofs.YtafnkpmoolbjjaaDoor
namespace Pv
def c48L1 : C := (.seq (.seq (.reg [⟨(some 8), 128, none, .mv (.t 4)⟩,
    ⟨(some 9), 144, none, .bi false .geq (.t 8) (.c (.int .i64 0))⟩])
  (.cond (.t 9) .skip (.exit 0)))
  (.seq (.block 1 (.seq (.reg [⟨(some 12), 192, none, .mv (.t 0)⟩,
    ⟨(some 13), 208, none, .call (.c (.fn (.func 26) [] [])) [(.t 12), (.c (.int .i64 4))]⟩,
    ⟨(some 5), 80, none, .mv (.t 13)⟩])
  (.seq (.seq (.reg [⟨(some 14), 224, none, .mv (.t 4)⟩,
    ⟨(some 15), 240, none, .bi false .eql (.t 14) (.c (.int .i64 0))⟩])
  (.cond (.t 15) (.reg [⟨(some 16), 256, none, .mv (.t 5)⟩,
    ⟨(some 17), 272, none, .bi false .add (.t 16) (.c (.int .i64 1))⟩,
    ⟨(some 5), 80, none, .mv (.t 17)⟩]) .skip))
  (.drw [⟨(some 18), 288, none, .fa 0 (.t 3)⟩,
    ⟨(some 19), 304, none, .ld 1 false (.t 18)⟩,
    ⟨(some 20), 320, none, .mv (.t 5)⟩,
    ⟨(some 21), 336, none, .bs 3 1 [(.t 20)]⟩,
    ⟨(some 22), 352, none, .app 3 1 8 (.t 19) (.t 21)⟩,
    ⟨(some 23), 368, none, .fa 1 (.t 3)⟩,
    ⟨(some 24), 384, none, .ld 1 false (.t 23)⟩,
    ⟨(some 25), 400, none, .mv (.t 5)⟩,
    ⟨(some 26), 416, none, .bi false .add (.t 24) (.t 25)⟩,
    ⟨(some 27), 432, none, .fa 0 (.t 3)⟩,
    ⟨none, 0, none, .st 1 (.t 27) (.t 22)⟩,
    ⟨(some 28), 448, none, .fa 1 (.t 3)⟩,
    ⟨none, 0, none, .st 1 (.t 28) (.t 26)⟩]
    [(0, 2, 18), (0, 3, 18), (0, 5, 18), (0, 6, 18), (0, 7, 18), (0, 8, 18), (1, 2, 19), (1, 3, 19), (1, 5, 19), (1, 6, 19), (1, 7, 19), (1, 8, 19), (2, 5, 20), (2, 6, 20), (2, 7, 20), (2, 8, 20), (3, 5, 21), (3, 6, 21), (3, 7, 21), (3, 8, 21), (4, 5, 22), (4, 6, 22), (4, 7, 22), (4, 8, 22), (5, 7, 23), (6, 7, 24), (7, 9, 25), (7, 10, 25), (8, 9, 26), (8, 10, 26)]))))
  (.reg [⟨(some 10), 160, none, .mv (.t 4)⟩,
    ⟨(some 11), 176, none, .bi false .sub (.t 10) (.c (.int .i64 1))⟩,
    ⟨(some 4), 64, none, .mv (.t 11)⟩])))
def c48 : C := (.seq (.reg [⟨(some 2), 32, none, .al [(.nil 1), (.int .i64 0)]⟩])
  (.seq (.reg [⟨(some 3), 48, none, .al [(.nil 1), (.int .i64 0)]⟩])
  (.seq (.seq (.reg [⟨(some 6), 96, none, .mv (.t 0)⟩,
    ⟨(some 7), 112, none, .call (.c (.fn (.func 26) [] [])) [(.t 6), (.c (.int .i64 5))]⟩,
    ⟨(some 4), 64, none, .mv (.t 7)⟩])
  (.block 0 (.loop c48L1)))
  (.seq (.reg [⟨(some 29), 464, none, .ld 2 true (.t 3)⟩,
    ⟨none, 0, none, .st 2 (.t 2) (.t 29)⟩])
  .ret))))
theorem fits48 : fits Tryd.prog false Tryd.f48 1 30 [(2, some (2, true))] = some c48.er := by kernel_rfl
def c35L1 : C := (.seq (.seq (.reg [⟨(some 9), 144, none, .mv (.t 4)⟩,
    ⟨(some 10), 160, none, .bi false .add (.t 9) (.c (.int .i64 1))⟩,
    ⟨(some 11), 176, none, .fa 0 (.t 3)⟩,
    ⟨(some 12), 192, none, .ld 1 false (.t 11)⟩,
    ⟨(some 13), 208, none, .bi false .lss (.t 10) (.t 12)⟩])
  (.cond (.t 13) .skip (.exit 0)))
  (.seq (.block 1 (.seq (.reg [⟨(some 16), 256, none, .mv (.t 0)⟩,
    ⟨(some 17), 272, none, .call (.c (.fn (.func 26) [] [])) [(.t 16), (.c (.int .i64 6))]⟩,
    ⟨(some 18), 288, none, .bi false .gtr (.t 17) (.c (.int .i64 0))⟩])
  (.cond (.t 18) (.drw [⟨(some 19), 304, none, .fa 1 (.t 3)⟩,
    ⟨(some 20), 320, none, .ld 1 false (.t 19)⟩,
    ⟨(some 21), 336, none, .mv (.t 4)⟩,
    ⟨(some 22), 352, none, .mv (.t 4)⟩,
    ⟨(some 23), 368, none, .bi false .add (.t 22) (.c (.int .i64 1))⟩,
    ⟨(some 24), 384, none, .mv (.t 0)⟩,
    ⟨(some 25), 400, none, .fa 0 (.t 3)⟩,
    ⟨(some 26), 416, none, .ld 1 false (.t 25)⟩,
    ⟨(some 27), 432, none, .mv (.t 4)⟩,
    ⟨(some 28), 448, none, .bi false .sub (.t 26) (.t 27)⟩,
    ⟨(some 29), 464, none, .bi false .sub (.t 28) (.c (.int .i64 1))⟩,
    ⟨(some 30), 480, none, .call (.c (.fn (.func 26) [] [])) [(.t 24), (.t 29)]⟩,
    ⟨(some 31), 496, none, .bi false .add (.t 23) (.t 30)⟩,
    ⟨(some 32), 512, none, .mv (.t 0)⟩,
    ⟨(some 33), 528, none, .call (.c (.fn (.func 48) [] [])) [(.t 32)]⟩,
    ⟨(some 34), 544, none, .bd [(.int .i64 0), (.int .i64 0), (.nil 1), (.int .i64 0)] [(0, 1, (.t 21)), (1, 1, (.t 31)), (2, 2, (.t 33))]⟩,
    ⟨(some 35), 560, none, .bs 119 4 [(.t 34)]⟩,
    ⟨(some 36), 576, none, .app 119 4 48 (.t 20) (.t 35)⟩,
    ⟨(some 37), 592, none, .fa 1 (.t 3)⟩,
    ⟨none, 0, none, .st 1 (.t 37) (.t 36)⟩]
    [(0, 2, 19), (0, 3, 19), (0, 4, 19), (0, 5, 19), (0, 6, 19), (0, 7, 19), (0, 8, 19), (0, 9, 19), (0, 10, 19), (0, 11, 19), (0, 12, 19), (0, 13, 19), (0, 14, 19), (0, 15, 19), (0, 16, 19), (1, 2, 20), (1, 3, 20), (1, 4, 20), (1, 5, 20), (1, 6, 20), (1, 7, 20), (1, 8, 20), (1, 9, 20), (1, 10, 20), (1, 11, 20), (1, 12, 20), (1, 13, 20), (1, 14, 20), (1, 15, 20), (1, 16, 20), (2, 3, 21), (2, 4, 21), (2, 5, 21), (2, 6, 21), (2, 7, 21), (2, 8, 21), (2, 9, 21), (2, 10, 21), (2, 11, 21), (2, 12, 21), (2, 13, 21), (2, 14, 21), (3, 5, 22), (3, 6, 22), (3, 7, 22), (3, 8, 22), (3, 9, 22), (3, 10, 22), (3, 11, 22), (3, 13, 22), (3, 14, 22), (4, 5, 23), (4, 6, 23), (4, 7, 23), (4, 8, 23), (4, 9, 23), (4, 10, 23), (4, 11, 23), (4, 13, 23), (4, 14, 23), (5, 6, 24), (5, 7, 24), (5, 8, 24), (5, 9, 24), (5, 10, 24), (5, 13, 24), (6, 8, 25), (6, 13, 25), (7, 8, 26), (7, 13, 26), (8, 13, 27), (9, 13, 28), (10, 13, 29), (11, 13, 30), (12, 13, 31), (12, 14, 31)]) .skip)))
  (.reg [⟨(some 14), 224, none, .mv (.t 4)⟩,
    ⟨(some 15), 240, none, .bi false .add (.t 14) (.c (.int .i64 1))⟩,
    ⟨(some 4), 64, none, .mv (.t 15)⟩])))
def c35 : C := (.seq (.reg [⟨(some 2), 32, none, .al [(.int .i64 0), (.nil 4)]⟩])
  (.seq (.reg [⟨(some 5), 80, none, .mv (.t 0)⟩,
    ⟨(some 6), 96, none, .call (.c (.fn (.func 26) [] [])) [(.t 5), (.c (.int .i64 6))]⟩,
    ⟨(some 7), 112, none, .bi false .add (.c (.int .i64 1)) (.t 6)⟩,
    ⟨(some 8), 128, none, .bd [(.int .i64 0), (.nil 4)] [(0, 1, (.t 7))]⟩,
    ⟨(some 3), 48, none, .al [(.int .i64 0), (.nil 4)]⟩,
    ⟨none, 0, none, .st 2 (.t 3) (.t 8)⟩])
  (.seq (.seq (.reg [⟨(some 4), 64, none, .mv (.c (.int .i64 0))⟩])
  (.block 0 (.loop c35L1)))
  (.seq (.reg [⟨(some 38), 608, none, .ld 2 true (.t 3)⟩,
    ⟨none, 0, none, .st 2 (.t 2) (.t 38)⟩])
  .ret))))
theorem fits35 : fits Tryd.prog false Tryd.f35 1 39 [(2, some (2, true))] = some c35.er := by kernel_rfl
def c18L1 : C := (.seq (.seq (.reg [⟨(some 12), 192, none, .mv (.t 6)⟩,
    ⟨(some 13), 208, none, .fa 0 (.t 4)⟩,
    ⟨(some 14), 224, none, .fa 0 (.t 13)⟩,
    ⟨(some 15), 240, none, .ld 1 false (.t 14)⟩,
    ⟨(some 16), 256, none, .bi false .lss (.t 12) (.t 15)⟩,
    ⟨(some 17), 272, none, .mv (.t 16)⟩,
    ⟨(some 18), 288, (some (17, true)), .fa 2 (.t 4)⟩,
    ⟨(some 19), 304, (some (17, true)), .ld 1 false (.t 18)⟩,
    ⟨(some 20), 320, (some (17, true)), .len (.t 19)⟩,
    ⟨(some 21), 336, (some (17, true)), .bi false .lss (.t 20) (.c (.int .i64 3))⟩,
    ⟨(some 22), 352, none, .pick (.t 17) (.t 21) (.c (.bool false))⟩])
  (.cond (.t 22) .skip (.exit 0)))
  (.seq (.block 1 (.seq (.reg [⟨(some 25), 400, none, .mv (.t 0)⟩,
    ⟨(some 26), 416, none, .call (.c (.fn (.func 26) [] [])) [(.t 25), (.c (.int .i64 2))]⟩,
    ⟨(some 27), 432, none, .bi false .eql (.t 26) (.c (.int .i64 0))⟩])
  (.cond (.t 27) (.seq (.reg [⟨(some 29), 464, none, .mv (.t 0)⟩,
    ⟨(some 30), 480, none, .call (.c (.fn (.func 36) [] [])) [(.t 29)]⟩,
    ⟨(some 28), 448, none, .mv (.t 30)⟩,
    ⟨(some 31), 496, none, .ex (.t 28) 0⟩,
    ⟨(some 32), 512, none, .ex (.t 28) 1⟩,
    ⟨(some 7), 112, none, .al [(.nil 2), (.int .i64 0), (.int .i64 0), (.int .i64 0), (.int .i64 0), (.int .i64 0), (.nil 6), (.nil 3), (.int .i64 0)]⟩,
    ⟨(some 8), 128, none, .al [(.int .i64 0), (.int .i64 0), (.nil 3), (.nil 2)]⟩,
    ⟨none, 0, none, .st 9 (.t 7) (.t 31)⟩,
    ⟨none, 0, none, .st 4 (.t 8) (.t 32)⟩])
  (.drw [⟨(some 33), 528, none, .fa 2 (.t 4)⟩,
    ⟨(some 34), 544, none, .ld 1 false (.t 33)⟩,
    ⟨(some 35), 560, none, .mv (.t 6)⟩,
    ⟨(some 36), 576, none, .ld 9 true (.t 7)⟩,
    ⟨(some 37), 592, none, .bd [(.int .i64 0), (.nil 2), (.int .i64 0), (.int .i64 0), (.int .i64 0), (.int .i64 0), (.int .i64 0), (.nil 6), (.nil 3), (.int .i64 0)] [(0, 1, (.t 35)), (1, 9, (.t 36))]⟩,
    ⟨(some 38), 608, none, .bs 100 10 [(.t 37)]⟩,
    ⟨(some 39), 624, none, .app 100 10 128 (.t 34) (.t 38)⟩,
    ⟨(some 40), 640, none, .mv (.t 5)⟩,
    ⟨(some 41), 656, none, .ld 4 true (.t 8)⟩,
    ⟨(some 42), 672, none, .bs 96 4 [(.t 41)]⟩,
    ⟨(some 43), 688, none, .app 96 4 64 (.t 40) (.t 42)⟩,
    ⟨(some 44), 704, none, .fa 2 (.t 4)⟩,
    ⟨none, 0, none, .st 1 (.t 44) (.t 39)⟩,
    ⟨(some 5), 80, none, .mv (.t 43)⟩]
    [(0, 2, 33), (0, 3, 33), (0, 4, 33), (0, 5, 33), (0, 7, 33), (0, 8, 33), (0, 9, 33), (1, 2, 34), (1, 3, 34), (1, 4, 34), (1, 5, 34), (1, 7, 34), (1, 8, 34), (1, 9, 34), (2, 3, 35), (2, 7, 35), (2, 8, 35), (2, 9, 35), (3, 7, 36), (3, 8, 36), (3, 9, 36), (4, 7, 37), (4, 8, 37), (4, 9, 37), (5, 7, 38), (5, 8, 38), (5, 9, 38), (6, 7, 39), (6, 8, 39), (6, 9, 39), (7, 8, 40), (7, 9, 40), (7, 11, 40), (8, 11, 41), (9, 11, 42), (10, 11, 43)])) .skip)))
  (.reg [⟨(some 23), 368, none, .mv (.t 6)⟩,
    ⟨(some 24), 384, none, .bi false .add (.t 23) (.c (.int .i64 1))⟩,
    ⟨(some 6), 96, none, .mv (.t 24)⟩])))
def c18 : C := (.seq (.reg [⟨(some 2), 32, none, .al [(.int .i64 0), (.nil 4), (.nil 10)]⟩,
    ⟨(some 3), 48, none, .mv (.c (.nil 4))⟩])
  (.seq (.reg [⟨(some 9), 144, none, .mv (.t 0)⟩,
    ⟨(some 10), 160, none, .call (.c (.fn (.func 35) [] [])) [(.t 9)]⟩,
    ⟨(some 11), 176, none, .bd [(.int .i64 0), (.nil 4), (.nil 10)] [(0, 2, (.t 10))]⟩,
    ⟨(some 4), 64, none, .al [(.int .i64 0), (.nil 4), (.nil 10)]⟩,
    ⟨none, 0, none, .st 3 (.t 4) (.t 11)⟩])
  (.seq (.reg [⟨(some 5), 80, none, .mv (.c (.nil 4))⟩])
  (.seq (.seq (.reg [⟨(some 6), 96, none, .mv (.c (.int .i64 0))⟩])
  (.block 0 (.loop c18L1)))
  (.seq (.reg [⟨(some 45), 720, none, .ld 3 true (.t 4)⟩,
    ⟨(some 46), 736, none, .mv (.t 5)⟩,
    ⟨none, 0, none, .st 3 (.t 2) (.t 45)⟩,
    ⟨(some 3), 48, none, .mv (.t 46)⟩])
  .ret)))))
theorem fits18 : fits Tryd.prog false Tryd.f18 1 47 [(2, some (3, true)), (3, none)] = some c18.er := by kernel_rfl
structure Lk where
  a : Int
  b : Int
  ws : List Int
  den : Int
  deriving Inhabited
def eLk (τ : Nat) (l : Lk) : List PV := [.int .i64 l.a, .int .i64 l.b, .sl τ 1 l.ws.length (fl eInt l.ws), .int .i64 l.den]
def rcW (n : Nat) (d : Dk) : Int := if n = 0 then nxt d 4 + 1 else nxt d 4
def rcI : Nat → List Int × Int × Dk → List Int × Int × Dk
  | 0, s => s
  | n + 1, s => rcI n (s.1 ++ [rcW n s.2.2], s.2.1 + rcW n s.2.2, nxtD s.2.2 4)
def reachF (d : Dk) : List Int × Int × Dk := rcI ((nxt d 5).toNat + 1) ([], 0, nxtD d 5)
theorem rcW_rng (n : Nat) (d : Dk) : 0 ≤ rcW n d ∧ rcW n d ≤ 4 := by
  have r := nxt_lt d (n := 4) (by omega)
  unfold rcW
  split <;> omega
theorem rcI_ok : ∀ (n : Nat) (s : List Int × Int × Dk), (rcI n s).1.length = s.1.length + n ∧ (rcI n s).2.2.at_ ≤ s.2.2.at_ + n
  | 0, s => ⟨rfl, Nat.le_refl _⟩
  | n + 1, s => by
    have ih := rcI_ok n (s.1 ++ [rcW n s.2.2], s.2.1 + rcW n s.2.2, nxtD s.2.2 4)
    have a := nxtD_at s.2.2 4
    unfold rcI
    rw [List.length_append, List.length_cons, List.length_nil] at ih
    generalize rcI n (s.1 ++ [rcW n s.2.2], s.2.1 + rcW n s.2.2, nxtD s.2.2 4) = W at ih ⊢
    dsimp only at ih
    omega
theorem reachF_ok (d : Dk) : (reachF d).1.length ≤ 5 ∧ (reachF d).2.2.at_ ≤ d.at_ + 6 := by
  have r := nxt_lt d (n := 5) (by omega)
  have a := nxtD_at d 5
  have h := rcI_ok ((nxt d 5).toNat + 1) ([], 0, nxtD d 5)
  unfold reachF
  generalize rcI ((nxt d 5).toNat + 1) ([], 0, nxtD d 5) = W at h ⊢
  rw [List.length_nil] at h
  dsimp only at h
  omega
def rvN (N : Int) (n : Int) (s : List Lk × Dk) : List Lk × Dk :=
  if 0 < nxt s.2 6 then
    (s.1 ++ [⟨n, n + 1 + nxt (nxtD s.2 6) (N - n - 1), (reachF (nxtD (nxtD s.2 6) (N - n - 1))).1, (reachF (nxtD (nxtD s.2 6) (N - n - 1))).2.1⟩], (reachF (nxtD (nxtD s.2 6) (N - n - 1))).2.2)
  else (s.1, nxtD s.2 6)
def rvI (N : Int) : Nat → Int → List Lk × Dk → List Lk × Dk
  | 0, _, s => s
  | k + 1, n, s => rvI N k (n + 1) (rvN N n s)
def riverF (d : Dk) : Int × List Lk × Dk := (1 + nxt d 6, rvI (1 + nxt d 6) (nxt d 6).toNat 0 ([], nxtD d 6))
theorem rvN_ok (N n : Int) (s : List Lk × Dk) : (rvN N n s).1.length ≤ s.1.length + 1 ∧ (rvN N n s).2.at_ ≤ s.2.at_ + 8 := by
  have a := nxtD_at s.2 6
  have a1 := nxtD_at (nxtD s.2 6) (N - n - 1)
  have h := (reachF_ok (nxtD (nxtD s.2 6) (N - n - 1))).2
  unfold rvN
  generalize reachF (nxtD (nxtD s.2 6) (N - n - 1)) = R at h ⊢
  generalize nxtD (nxtD s.2 6) (N - n - 1) = e1 at a1 h
  generalize nxtD s.2 6 = e at a a1 ⊢
  split
  · dsimp only; rw [List.length_append, List.length_cons, List.length_nil]; omega
  · dsimp only; omega
theorem rvI_ok (N : Int) : ∀ (k : Nat) (n : Int) (s : List Lk × Dk), (rvI N k n s).1.length ≤ s.1.length + k ∧ (rvI N k n s).2.at_ ≤ s.2.at_ + 8 * k
  | 0, n, s => ⟨Nat.le_refl _, Nat.le_refl _⟩
  | k + 1, n, s => by
    have ih := rvI_ok N k (n + 1) (rvN N n s)
    have h := rvN_ok N n s
    unfold rvI
    generalize rvI N k (n + 1) (rvN N n s) = W at ih ⊢
    generalize rvN N n s = V at ih h
    omega
theorem riverF_ok (d : Dk) : (1 ≤ (riverF d).1 ∧ (riverF d).1 ≤ 6) ∧ (riverF d).2.1.length ≤ 5 ∧ (riverF d).2.2.at_ ≤ d.at_ + 41 := by
  have r := nxt_lt d (n := 6) (by omega)
  have a := nxtD_at d 6
  have h := rvI_ok (1 + nxt d 6) (nxt d 6).toNat 0 ([], nxtD d 6)
  unfold riverF
  dsimp only
  generalize rvI (1 + nxt d 6) (nxt d 6).toNat 0 ([], nxtD d 6) = W at h ⊢
  rw [List.length_nil] at h
  dsimp only at h
  omega
set_option maxRecDepth 100000 in
set_option maxHeartbeats 8000000 in
theorem call48 (d : Dk) (hd : d.at_ ≤ 960000000) : PureCall Tryd.prog 48 [.pt 0 0 0] [.box (eDk 1 d)] ⟨.agg [.sl 0 1 (reachF d).1.length (fl eInt (reachF d).1), .int .i64 (reachF d).2.1], [.box (eDk 1 (reachF d).2.2)], []⟩ := by
  refine pure_call mix Tryd.func48 fits48 rfl ?_
  unfold reachF
  conv => whnf
  refine ⟨_, fun _ => call_next 1 d 5 (by omega) (by omega), ?_⟩
  have r1 := nxt_lt d (n := 5) (by omega)
  have a1 := nxtD_at d 5
  obtain ⟨m0, hm0⟩ : ∃ m : Nat, (m : Int) = nxt d 5 := ⟨(nxt d 5).toNat, by omega⟩
  rw [← hm0] at r1 ⊢
  rw [Int.toNat_natCast]
  generalize nxtD d 5 = e1 at a1 ⊢
  obtain ⟨R0, hR0⟩ : ∃ R0, R0 = rcI (m0 + 1) ([], 0, e1) := ⟨_, rfl⟩
  rw [← hR0]
  conv => whnf
  refine ⟨?_, ?_⟩
  · (try conv => whnf)
    (repeat' (first | exact True.intro | exact fun _ h => h | refine inR64_of ?_ ?_ | apply And.intro | refine maxLen_ge ?_)) <;> (first | omega | (dsimp only; omega))
  refine LSem.adoptF 48 0 1000000 3 1 1 _ rfl rfl rfl ?_
  refine LSem.loop (n := 30) mix (α := Nat × List Int × Int × Dk) (fun s => s.1 + s.2.1.length = m0 + 1 ∧ rcI s.1 s.2 = R0 ∧ s.2.2.2.at_ ≤ 970000000 + s.2.1.length ∧ (0 ≤ s.2.2.1 ∧ s.2.2.1 ≤ 4 * s.2.1.length))
    (fun s => [(0, .pt 0 0 0), (2, .pt 32 0 0), (3, .pt 48 0 0), (4, .int .i64 ((s.1 : Int) - 1))])
    (fun s => [(0, .box (eDk 1 s.2.2.2)), (32, .box [.nil 1, .int .i64 0]), (48, .box [.os 1000000, .int .i64 s.2.2.1]), (1000000, .row 0 3 1 s.2.1.length (fl eInt s.2.1))]) (fun s => s.1) (m0 + 1, [], 0, e1) ?_ ?_ ?_
  · exact ⟨rfl, hR0.symm, by dsimp only; omega, by dsimp only; omega⟩
  · refine ⟨rfl, rfl, ?_, ?_⟩
    all_goals repeat' (first | exact True.intro | refine leF_cons rfl ?_ ?_ | refine leS_cons rfl ?_ ?_ | (show PLe _ _ _ _; conv => whnf) | (show SLe _ _ _ _; conv => whnf) | (show PLeL _ _ _ _; conv => whnf) | apply And.intro | rfl | exact Nat.le_refl _ | exact fun _ _ => rfl | exact rowEq0 _ _)
    all_goals first | omega | (dsimp only; omega) | skip
  · intro s hs
    obtain ⟨m, l, sm, e⟩ := s
    obtain ⟨k1, k2, k3, k4⟩ := hs
    dsimp only at k1 k2 k3 k4
    conv => whnf
    refine ⟨trivial, fun hc => ?_, fun hc => ?_⟩
    · replace hc := of_decide_eq_true hc
      obtain ⟨m, rfl⟩ : ∃ m', m = m' + 1 := ⟨m - 1, by
        have h : (0 : Int) ≤ (m : Int) - 1 := hc
        omega⟩
      have hst : rcI m (l ++ [rcW m e], sm + rcW m e, nxtD e 4) = R0 := k2
      have hw := rcW_rng m e
      have hwe : rcW m e = if m = 0 then nxt e 4 + 1 else nxt e 4 := rfl
      have q := fl_push eInt l (rcW m e)
      have hxl : (l ++ [rcW m e]).length = l.length + 1 := by simp
      conv => whnf
      refine ⟨_, fun _ => call_next 1 e 4 (by omega) (by omega), ?_⟩
      have a2 := nxtD_at e 4
      generalize rcW m e = w at hst hw hwe q hxl
      generalize nxt e 4 = x at hwe ⊢
      generalize nxtD e 4 = e2 at a2 hst ⊢
      conv => whnf
      refine ⟨?_, fun hz => ?_, fun hz => ?_⟩
      · (try conv => whnf)
        (repeat' (first | exact True.intro | exact fun _ h => h | refine inR64_of ?_ ?_ | apply And.intro | refine maxLen_ge ?_)) <;> (first | omega | (dsimp only; omega))
      · have hz : ((m + 1 : Nat) : Int) - 1 = 0 := beq_iff_eq.1 hz
        rw [if_pos (by omega)] at hwe
        subst hwe
        conv => whnf
        refine ⟨rfl, ?_⟩
        conv => whnf
        refine ⟨?_, (m, l ++ [x + 1], sm + (x + 1), e2), ⟨?_, hst, ?_, ?_⟩, ?_, rfl, rfl, ?_, ?_⟩
        · (try conv => whnf)
          (repeat' (first | exact True.intro | exact fun _ h => h | refine inR64_of ?_ ?_ | apply And.intro | refine maxLen_ge ?_)) <;> (first | omega | decide | (dsimp only; omega) | (dsimp only [List.length_cons, List.length_nil]; omega) | (intro hg; rw [hg]; rfl) | (intro hg hh; rw [hg, hh]; rfl) | (intro hg; simp [-List.getD_eq_getElem?_getD, -Int.default_eq_zero] at hg; first | omega | (refine inR64_of ?_ ?_ <;> omega) | (constructor <;> omega)) | (simp [-List.getD_eq_getElem?_getD, -Int.default_eq_zero]; done))
        · dsimp only; rw [hxl]; omega
        · dsimp only; rw [hxl]; omega
        · dsimp only; rw [hxl]; omega
        · dsimp only; omega
        all_goals repeat' (first | exact True.intro | refine leF_cons rfl ?_ ?_ | refine leS_cons rfl ?_ ?_ | (show PLe _ _ _ _; conv => whnf) | (show SLe _ _ _ _; conv => whnf) | (show PLeL _ _ _ _; conv => whnf) | apply And.intro | rfl | exact Nat.le_refl _ | exact fun _ _ => rfl | exact rowEq0 _ _)
        all_goals first | exact q | (dsimp only; rw [hxl]; rfl) | (dsimp only; rw [hxl]; done) | (dsimp only; omega) | omega | skip
      · have hz : ¬ ((m + 1 : Nat) : Int) - 1 = 0 := beq_eq_false_iff_ne.1 hz
        rw [if_neg (by omega)] at hwe
        subst hwe
        conv => whnf
        refine ⟨rfl, ?_⟩
        conv => whnf
        refine ⟨?_, (m, l ++ [w], sm + w, e2), ⟨?_, hst, ?_, ?_⟩, ?_, rfl, rfl, ?_, ?_⟩
        · (try conv => whnf)
          (repeat' (first | exact True.intro | exact fun _ h => h | refine inR64_of ?_ ?_ | apply And.intro | refine maxLen_ge ?_)) <;> (first | omega | decide | (dsimp only; omega) | (dsimp only [List.length_cons, List.length_nil]; omega) | (intro hg; rw [hg]; rfl) | (intro hg hh; rw [hg, hh]; rfl) | (intro hg; simp [-List.getD_eq_getElem?_getD, -Int.default_eq_zero] at hg; first | omega | (refine inR64_of ?_ ?_ <;> omega) | (constructor <;> omega)) | (simp [-List.getD_eq_getElem?_getD, -Int.default_eq_zero]; done))
        · dsimp only; rw [hxl]; omega
        · dsimp only; rw [hxl]; omega
        · dsimp only; rw [hxl]; omega
        · dsimp only; omega
        all_goals repeat' (first | exact True.intro | refine leF_cons rfl ?_ ?_ | refine leS_cons rfl ?_ ?_ | (show PLe _ _ _ _; conv => whnf) | (show SLe _ _ _ _; conv => whnf) | (show PLeL _ _ _ _; conv => whnf) | apply And.intro | rfl | exact Nat.le_refl _ | exact fun _ _ => rfl | exact rowEq0 _ _)
        all_goals first | exact q | (dsimp only; rw [hxl]; rfl) | (dsimp only; rw [hxl]; done) | (dsimp only; omega) | omega | skip
    · replace hc := of_decide_eq_false hc
      have h0 : m = 0 := by
        have h : ¬ (0 : Int) ≤ (m : Int) - 1 := hc
        omega
      subst h0
      have hp : (l, sm, e) = R0 := k2
      rw [← hp]
      conv => whnf
      refine ⟨?_, [], ?_⟩
      · (try conv => whnf)
        (repeat' (first | exact True.intro | exact fun _ h => h | refine inR64_of ?_ ?_ | apply And.intro | refine maxLen_ge ?_)) <;> (first | omega | (dsimp only; omega))
      conv => whnf
      refine ⟨rfl, ?_, ?_, trivial⟩
      all_goals repeat' (first | exact True.intro | refine leF_cons rfl ?_ ?_ | refine leS_cons rfl ?_ ?_ | (show PLe _ _ _ _; conv => whnf) | (show SLe _ _ _ _; conv => whnf) | (show PLeL _ _ _ _; conv => whnf) | apply And.intro | rfl | exact Nat.le_refl _ | exact fun _ _ => rfl | exact rowEq0 _ _)
end Pv
end Go.Proofs.YtafnkpmoolbjjaaDoor
/- CASCADES that are made. -/
set_option linter.unusedSimpArgs false
set_option linter.unusedVariables false
namespace Go.Proofs.YtafnkpmoolbjjaaDoor
namespace Pv
set_option maxRecDepth 100000 in
set_option maxHeartbeats 8000000 in
theorem call35 (d : Dk) (hd : d.at_ ≤ 940000000) : PureCall Tryd.prog 35 [.pt 0 0 0] [.box (eDk 1 d)] ⟨.agg [.int .i64 (riverF d).1, .sl 0 4 (riverF d).2.1.length (fl (eLk 0) (riverF d).2.1)], [.box (eDk 1 (riverF d).2.2)], []⟩ := by
  refine pure_call mix Tryd.func35 fits35 rfl ?_
  unfold riverF
  dsimp only
  conv => whnf
  refine ⟨_, fun _ => call_next 1 d 6 (by omega) (by omega), ?_⟩
  have r1 := nxt_lt d (n := 6) (by omega)
  have a1 := nxtD_at d 6
  obtain ⟨m0, hm0⟩ : ∃ m : Nat, (m : Int) = nxt d 6 := ⟨(nxt d 6).toNat, by omega⟩
  rw [← hm0] at r1 ⊢
  rw [Int.toNat_natCast]
  generalize nxtD d 6 = e1 at a1 ⊢
  obtain ⟨R0, hR0⟩ : ∃ R0, R0 = rvI (1 + (m0 : Int)) m0 0 ([], e1) := ⟨_, rfl⟩
  rw [← hR0]
  conv => whnf
  refine ⟨?_, ?_⟩
  · (try conv => whnf)
    (repeat' (first | exact True.intro | exact fun _ h => h | refine inR64_of ?_ ?_ | apply And.intro | refine maxLen_ge ?_)) <;> (first | omega | (dsimp only; omega))
  refine LSem.adoptF 48 1 1000000 119 4 4 _ rfl rfl rfl ?_
  refine LSem.loop (n := 39) mix (α := Nat × Nat × List Lk × Dk) (fun s => s.1 + s.2.1 = m0 ∧ rvI (1 + (m0 : Int)) s.1 (s.2.1 : Int) s.2.2 = R0 ∧ s.2.2.2.at_ ≤ 950000000 + 8 * s.2.1 ∧ s.2.2.1.length ≤ s.2.1)
    (fun s => [(0, .pt 0 0 0), (2, .pt 32 0 0), (3, .pt 48 0 0), (4, .int .i64 s.2.1)])
    (fun s => [(0, .box (eDk 1 s.2.2.2)), (32, .box [.int .i64 0, .nil 4]), (48, .box [.int .i64 (1 + m0), .os 1000000]), (1000000, .row 0 119 4 s.2.2.1.length (fl (eLk 0) s.2.2.1))]) (fun s => s.1) (m0, 0, [], e1) ?_ ?_ ?_
  · exact ⟨Nat.add_zero _, hR0.symm, by dsimp only; omega, Nat.le_refl _⟩
  · refine ⟨rfl, rfl, ?_, ?_⟩
    all_goals repeat' (first | exact True.intro | refine leF_cons rfl ?_ ?_ | refine leS_cons rfl ?_ ?_ | (show PLe _ _ _ _; conv => whnf) | (show SLe _ _ _ _; conv => whnf) | (show PLeL _ _ _ _; conv => whnf) | apply And.intro | rfl | exact Nat.le_refl _ | exact fun _ _ => rfl | exact rowEq0 _ _)
  · intro s hs
    obtain ⟨k, n, l, e⟩ := s
    obtain ⟨k1, k2, k3, k4⟩ := hs
    dsimp only at k1 k2 k3 k4
    conv => whnf
    refine ⟨?_, fun hc => ?_, fun hc => ?_⟩
    · (try conv => whnf)
      (repeat' (first | exact True.intro | exact fun _ h => h | refine inR64_of ?_ ?_ | apply And.intro | refine maxLen_ge ?_)) <;> (first | omega | (dsimp only; omega))
    · replace hc := of_decide_eq_true hc
      obtain ⟨k, rfl⟩ : ∃ k', k = k' + 1 := ⟨k - 1, by
        have h : (n : Int) + 1 < 1 + m0 := hc
        omega⟩
      have hst : rvI (1 + (m0 : Int)) k ((n : Int) + 1) (rvN (1 + (m0 : Int)) n (l, e)) = R0 := k2
      have hrv : rvN (1 + (m0 : Int)) n (l, e) = if 0 < nxt e 6 then
          (l ++ [⟨n, n + 1 + nxt (nxtD e 6) (1 + (m0 : Int) - n - 1), (reachF (nxtD (nxtD e 6) (1 + (m0 : Int) - n - 1))).1, (reachF (nxtD (nxtD e 6) (1 + (m0 : Int) - n - 1))).2.1⟩], (reachF (nxtD (nxtD e 6) (1 + (m0 : Int) - n - 1))).2.2)
        else (l, nxtD e 6) := rfl
      rw [hrv] at hst
      clear hrv k2
      have hni : (n : Int) + 1 = ((n + 1 : Nat) : Int) := by omega
      conv => whnf
      refine ⟨_, fun _ => call_next 1 e 6 (by omega) (by omega), ?_⟩
      have a2 := nxtD_at e 6
      generalize nxt e 6 = x at hst ⊢
      generalize nxtD e 6 = e2 at a2 hst ⊢
      conv => whnf
      refine ⟨?_, fun hx => ?_, fun hx => ?_⟩
      · (try conv => whnf)
        (repeat' (first | exact True.intro | exact fun _ h => h | refine inR64_of ?_ ?_ | apply And.intro | refine maxLen_ge ?_)) <;> (first | omega | (dsimp only; omega))
      · have hx : 0 < x := of_decide_eq_true hx
        rw [if_pos hx] at hst
        conv => whnf
        refine ⟨_, fun _ => call_next 1 e2 (1 + (m0 : Int) - n - 1) (by omega) (by omega), ?_⟩
        have r3 := nxt_rng e2 (1 + (m0 : Int) - n - 1)
        have a3 := nxtD_at e2 (1 + (m0 : Int) - n - 1)
        generalize nxt e2 (1 + (m0 : Int) - n - 1) = y at r3 hst ⊢
        generalize nxtD e2 (1 + (m0 : Int) - n - 1) = e3 at a3 hst ⊢
        conv => whnf
        refine ⟨_, fun _ => call48 e3 (by omega), ?_⟩
        have h4 := reachF_ok e3
        generalize reachF e3 = R at h4 hst ⊢
        obtain ⟨ws, den, e4⟩ := R
        dsimp only at h4 hst
        have q := fl_push (eLk 0) l ⟨n, n + 1 + y, ws, den⟩
        have hxl : (l ++ [(⟨n, n + 1 + y, ws, den⟩ : Lk)]).length = l.length + 1 := by simp
        conv => whnf
        refine ⟨rfl, ?_⟩
        conv => whnf
        refine ⟨?_, (k, n + 1, l ++ [⟨n, n + 1 + y, ws, den⟩], e4), ⟨?_, ?_, ?_, ?_⟩, ?_, rfl, rfl, ?_, ?_⟩
        · (try conv => whnf)
          (repeat' (first | exact True.intro | exact fun _ h => h | refine inR64_of ?_ ?_ | apply And.intro | refine maxLen_ge ?_)) <;> (first | omega | decide | (dsimp only; omega) | (dsimp only [List.length_cons, List.length_nil]; omega) | (intro hg; rw [hg]; rfl) | (intro hg hh; rw [hg, hh]; rfl) | (intro hg; simp [-List.getD_eq_getElem?_getD, -Int.default_eq_zero] at hg; first | omega | (refine inR64_of ?_ ?_ <;> omega) | (constructor <;> omega)) | (simp [-List.getD_eq_getElem?_getD, -Int.default_eq_zero]; done))
        · dsimp only; omega
        · dsimp only; rw [← hni]; exact hst
        · dsimp only; omega
        · dsimp only; rw [hxl]; omega
        · dsimp only; omega
        all_goals repeat' (first | exact True.intro | refine leF_cons rfl ?_ ?_ | refine leS_cons rfl ?_ ?_ | (show PLe _ _ _ _; conv => whnf) | (show SLe _ _ _ _; conv => whnf) | (show PLeL _ _ _ _; conv => whnf) | apply And.intro | rfl | exact Nat.le_refl _ | exact fun _ _ => rfl | exact rowEq0 _ _)
        all_goals first | exact q | (dsimp only; rw [hxl]; rfl) | (dsimp only; rw [hxl]; done) | (dsimp only; omega) | omega | skip
      · have hx : ¬ 0 < x := of_decide_eq_false hx
        rw [if_neg hx] at hst
        conv => whnf
        refine ⟨?_, (k, n + 1, l, e2), ⟨?_, ?_, ?_, ?_⟩, ?_, rfl, rfl, ?_, ?_⟩
        · (try conv => whnf)
          (repeat' (first | exact True.intro | exact fun _ h => h | refine inR64_of ?_ ?_ | apply And.intro | refine maxLen_ge ?_)) <;> (first | omega | (dsimp only; omega))
        · dsimp only; omega
        · dsimp only; rw [← hni]; exact hst
        · dsimp only; omega
        · dsimp only; omega
        · dsimp only; omega
        all_goals repeat' (first | exact True.intro | refine leF_cons rfl ?_ ?_ | refine leS_cons rfl ?_ ?_ | (show PLe _ _ _ _; conv => whnf) | (show SLe _ _ _ _; conv => whnf) | (show PLeL _ _ _ _; conv => whnf) | apply And.intro | rfl | exact Nat.le_refl _ | exact fun _ _ => rfl | exact rowEq0 _ _)
        all_goals first | (dsimp only; omega) | omega | skip
    · replace hc := of_decide_eq_false hc
      have h0 : k = 0 := by
        have h : ¬ (n : Int) + 1 < 1 + m0 := hc
        omega
      subst h0
      have hp : (l, e) = R0 := k2
      rw [← hp]
      conv => whnf
      refine ⟨?_, [], ?_⟩
      · (try conv => whnf)
        (repeat' (first | exact True.intro | exact fun _ h => h | refine inR64_of ?_ ?_ | apply And.intro | refine maxLen_ge ?_)) <;> (first | omega | (dsimp only; omega))
      conv => whnf
      refine ⟨rfl, ?_, ?_, trivial⟩
      all_goals repeat' (first | exact True.intro | refine leF_cons rfl ?_ ?_ | refine leS_cons rfl ?_ ?_ | (show PLe _ _ _ _; conv => whnf) | (show SLe _ _ _ _; conv => whnf) | (show PLeL _ _ _ _; conv => whnf) | apply And.intro | rfl | exact Nat.le_refl _ | exact fun _ _ => rfl | exact rowEq0 _ _)
structure Site where
  node : Int
  x : Dm
  deriving Inhabited
def eSite (τ : Nat) (s : Site) : List PV := [.int .i64 s.node, .sl τ 2 s.x.r.st.length (fl ePt s.x.r.st), .int .i64 s.x.r.dead, .int .i64 s.x.r.low, .int .i64 s.x.r.full, .int .i64 s.x.r.sur, .int .i64 s.x.r.crest,
  .sl τ 6 s.x.us.length (fl (eUt 0) s.x.us), .sl τ 3 s.x.gs.length (fl (eGa 0) s.x.gs), .int .i64 s.x.grain]
def csN (n : Int) (s : List Site × List Ds × Dk) : List Site × List Ds × Dk :=
  if nxt s.2.2 2 = 0 then (s.1 ++ [⟨n, (damF (nxtD s.2.2 2)).1⟩], s.2.1 ++ [(damF (nxtD s.2.2 2)).2.1], (damF (nxtD s.2.2 2)).2.2) else (s.1, s.2.1, nxtD s.2.2 2)
def csI : Nat → Int → List Site × List Ds × Dk → List Site × List Ds × Dk
  | 0, _, s => s
  | k + 1, n, s => if s.1.length < 3 then csI k (n + 1) (csN n s) else s
def cascF (d : Dk) : (Int × List Lk × List Site) × List Ds × Dk :=
  let R := riverF d
  let W := csI R.1.toNat 0 ([], [], R.2.2)
  ((R.1, R.2.1, W.1), W.2.1, W.2.2)
theorem csN_eq (n : Int) (l : List Site) (y : List Ds) (e : Dk) : csN n (l, y, e) = if nxt e 2 = 0 then (l ++ [⟨n, (damF (nxtD e 2)).1⟩], y ++ [(damF (nxtD e 2)).2.1], (damF (nxtD e 2)).2.2) else (l, y, nxtD e 2) := by unfold csN; dsimp only
theorem csI_succ (k : Nat) (n : Int) (l : List Site) (y : List Ds) (e : Dk) : csI (k + 1) n (l, y, e) = if l.length < 3 then csI k (n + 1) (csN n (l, y, e)) else (l, y, e) := by rw [csI]
theorem csN_ok (n : Int) (s : List Site × List Ds × Dk) : (csN n s).1.length ≤ s.1.length + 1 ∧ ((csN n s).2.1.length = (csN n s).1.length ↔ s.2.1.length = s.1.length) ∧ (csN n s).2.2.at_ ≤ s.2.2.at_ + 201 := by
  have a := nxtD_at s.2.2 2
  have h := damF_at (nxtD s.2.2 2)
  unfold csN
  generalize damF (nxtD s.2.2 2) = D at h ⊢
  generalize nxtD s.2.2 2 = e at a h ⊢
  split
  · dsimp only; simp only [List.length_append, List.length_cons, List.length_nil]; omega
  · dsimp only; omega
theorem csI_ok : ∀ (k : Nat) (n : Int) (s : List Site × List Ds × Dk), s.1.length ≤ 3 → s.2.1.length = s.1.length → (csI k n s).1.length ≤ 3 ∧ (csI k n s).2.1.length = (csI k n s).1.length ∧ (csI k n s).2.2.at_ ≤ s.2.2.at_ + 201 * k
  | 0, n, s, h, h2 => ⟨h, h2, Nat.le_refl _⟩
  | k + 1, n, s, h, h2 => by
    unfold csI
    split
    · have hn := csN_ok n s
      have ih := csI_ok k (n + 1) (csN n s) (by omega) (hn.2.1.2 h2)
      generalize csI k (n + 1) (csN n s) = W at ih ⊢
      generalize csN n s = V at hn ih
      omega
    · exact ⟨h, h2, by omega⟩
theorem cascF_ok (d : Dk) : (1 ≤ (cascF d).1.1 ∧ (cascF d).1.1 ≤ 6) ∧ (cascF d).1.2.1.length ≤ 5 ∧ (cascF d).1.2.2.length ≤ 3 ∧ (cascF d).2.1.length = (cascF d).1.2.2.length ∧ (cascF d).2.2.at_ ≤ d.at_ + 1300 := by
  have h := riverF_ok d
  unfold cascF
  dsimp only
  generalize riverF d = R at h ⊢
  have h2 := csI_ok R.1.toNat 0 ([], [], R.2.2) (by simp) rfl
  generalize csI R.1.toNat 0 ([], [], R.2.2) = W at h2 ⊢
  dsimp only at h2
  omega
set_option maxRecDepth 100000 in
set_option maxHeartbeats 8000000 in
theorem call18 (d : Dk) (hd : d.at_ ≤ 900000000) : PureCall Tryd.prog 18 [.pt 0 0 0] [.box (eDk 1 d)]
    ⟨.tup [.agg [.int .i64 (cascF d).1.1, .sl 0 4 (cascF d).1.2.1.length (fl (eLk 0) (cascF d).1.2.1), .sl 0 10 (cascF d).1.2.2.length (fl (eSite 0) (cascF d).1.2.2)], .sl 0 4 (cascF d).2.1.length (fl (eDs 0) (cascF d).2.1)], [.box (eDk 1 (cascF d).2.2)], []⟩ := by
  refine pure_call mix Tryd.func18 fits18 rfl ?_
  unfold cascF
  dsimp only
  conv => whnf
  refine ⟨_, fun _ => call35 d (by omega), ?_⟩
  have h := riverF_ok d
  generalize riverF d = R at h ⊢
  obtain ⟨N, lk, e1⟩ := R
  dsimp only at h ⊢
  obtain ⟨N, rfl⟩ : ∃ m : Nat, N = m := ⟨N.toNat, by omega⟩
  rw [Int.toNat_natCast]
  obtain ⟨R0, hR0⟩ : ∃ R0, R0 = csI N 0 ([], [], e1) := ⟨_, rfl⟩
  rw [← hR0]
  conv => whnf
  refine ⟨?_, ?_⟩
  · (try conv => whnf)
    (repeat' (first | exact True.intro | exact fun _ h => h | refine inR64_of ?_ ?_ | apply And.intro | refine maxLen_ge ?_)) <;> (first | omega | (dsimp only; omega))
  refine LSem.adopt 5 1000001 96 4 4 rfl rfl ?_
  refine LSem.adoptF 64 2 1000000 100 10 10 _ rfl rfl rfl ?_
  refine LSem.loop (n := 47) mix (α := Nat × Nat × List Site × List Ds × Dk) (fun s => s.1 + s.2.1 = N ∧ csI s.1 (s.2.1 : Int) s.2.2 = R0 ∧ s.2.2.2.2.at_ ≤ 900001000 + 201 * s.2.1 ∧ s.2.2.1.length ≤ s.2.1 ∧ s.2.2.2.1.length = s.2.2.1.length)
    (fun s => [(0, .pt 0 0 0), (2, .pt 32 0 0), (4, .pt 64 0 0), (5, .os 1000001), (6, .int .i64 s.2.1)])
    (fun s => [(0, .box (eDk 1 s.2.2.2.2)), (32, .box [.int .i64 0, .nil 4, .nil 10]), (64, .box [.int .i64 N, .sl 0 4 lk.length (fl (eLk 0) lk), .os 1000000]), (1000000, .row 0 100 10 s.2.2.1.length (fl (eSite 0) s.2.2.1)), (1000001, .row 0 96 4 s.2.2.2.1.length (fl (eDs 0) s.2.2.2.1))]) (fun s => s.1) (N, 0, [], [], e1) ?_ ?_ ?_
  · exact ⟨Nat.add_zero _, hR0.symm, by dsimp only; omega, Nat.le_refl _, rfl⟩
  · refine ⟨rfl, rfl, ?_, ?_⟩
    all_goals repeat' (first | exact True.intro | refine leF_cons rfl ?_ ?_ | refine leS_cons rfl ?_ ?_ | (show PLe _ _ _ _; conv => whnf) | (show SLe _ _ _ _; conv => whnf) | (show PLeL _ _ _ _; conv => whnf) | apply And.intro | rfl | exact Nat.le_refl _ | exact fun _ _ => rfl | exact rowEq0 _ _)
  · intro s hs
    obtain ⟨k, n, l, y, e⟩ := s
    obtain ⟨k1, k2, k3, k4, k5⟩ := hs
    dsimp only at k1 k2 k3 k4 k5
    conv => whnf
    refine ⟨?_, fun hc => ?_, fun hc => ?_⟩
    · (try conv => whnf)
      (repeat' (first | exact True.intro | exact fun _ h => h | refine inR64_of ?_ ?_ | apply And.intro | refine maxLen_ge ?_)) <;> (first | omega | decide | (dsimp only; omega) | (dsimp only [List.length_cons, List.length_nil]; omega) | (intro hg; rw [hg]; rfl) | (intro hg hh; rw [hg, hh]; rfl) | (intro hg; simp [-List.getD_eq_getElem?_getD, -Int.default_eq_zero] at hg; first | omega | (refine inR64_of ?_ ?_ <;> omega) | (constructor <;> omega)) | (simp [-List.getD_eq_getElem?_getD, -Int.default_eq_zero]; done))
    · have hc : (bif decide ((n : Int) < N) then decide ((l.length : Int) < 3) else false) = true := hc
      simp only [bif_t, bif_f, decide_eq_true_eq, decide_eq_false_iff_not, Bool.not_eq_true', Bool.not_eq_false', Bool.and_eq_true, Bool.or_eq_true, Bool.and_eq_false_iff, Bool.or_eq_false_iff, beq_iff_eq, bne_iff_ne, beq_eq_false_iff_ne, bne_eq_false_iff_eq, reduceCtorEq, false_and, and_false, true_and, and_true, or_false, false_or, or_true, true_or, not_true_eq_false, not_false_eq_true, Int.toNat_zero] at hc
      obtain ⟨k, rfl⟩ : ∃ k', k = k' + 1 := ⟨k - 1, by omega⟩
      have hst := k2
      rw [csI_succ, if_pos (by omega), csN_eq] at hst
      clear k2
      have hni : (n : Int) + 1 = ((n + 1 : Nat) : Int) := by omega
      conv => whnf
      refine ⟨_, fun _ => call_next 1 e 2 (by omega) (by omega), ?_⟩
      have a2 := nxtD_at e 2
      generalize nxt e 2 = x at hst ⊢
      generalize nxtD e 2 = e2 at a2 hst ⊢
      conv => whnf
      refine ⟨?_, fun hx => ?_, fun hx => ?_⟩
      · (try conv => whnf)
        (repeat' (first | exact True.intro | exact fun _ h => h | refine inR64_of ?_ ?_ | apply And.intro | refine maxLen_ge ?_)) <;> (first | omega | (dsimp only; omega))
      · have hx : x = 0 := beq_iff_eq.1 hx
        rw [if_pos hx] at hst
        conv => whnf
        refine ⟨_, fun _ => call36 e2 (by omega), ?_⟩
        have h4 := damF_at e2
        generalize damF e2 = D at h4 hst ⊢
        obtain ⟨dm, ds, e3⟩ := D
        dsimp only at h4 hst
        have q := fl_push (eSite 0) l ⟨n, dm⟩
        have hxl : (l ++ [(⟨n, dm⟩ : Site)]).length = l.length + 1 := by simp
        have q2 := fl_push (eDs 0) y ds
        have hyl : (y ++ [ds]).length = y.length + 1 := by simp
        conv => whnf
        refine ⟨rfl, ?_⟩
        conv => whnf
        refine ⟨?_, (k, n + 1, l ++ [⟨n, dm⟩], y ++ [ds], e3), ⟨?_, ?_, ?_, ?_, ?_⟩, ?_, rfl, rfl, ?_, ?_⟩
        · (try conv => whnf)
          (repeat' (first | exact True.intro | exact fun _ h => h | refine inR64_of ?_ ?_ | apply And.intro | refine maxLen_ge ?_)) <;> (first | omega | decide | (dsimp only; omega) | (dsimp only [List.length_cons, List.length_nil]; omega) | (intro hg; rw [hg]; rfl) | (intro hg hh; rw [hg, hh]; rfl) | (intro hg; simp [-List.getD_eq_getElem?_getD, -Int.default_eq_zero] at hg; first | omega | (refine inR64_of ?_ ?_ <;> omega) | (constructor <;> omega)) | (simp [-List.getD_eq_getElem?_getD, -Int.default_eq_zero]; done))
        · dsimp only; omega
        · dsimp only; rw [← hni]; exact hst
        · dsimp only; omega
        · dsimp only; rw [hxl]; omega
        · dsimp only; rw [hxl, hyl]; omega
        · dsimp only; omega
        all_goals repeat' (first | exact True.intro | refine leF_cons rfl ?_ ?_ | refine leS_cons rfl ?_ ?_ | (show PLe _ _ _ _; conv => whnf) | (show SLe _ _ _ _; conv => whnf) | (show PLeL _ _ _ _; conv => whnf) | apply And.intro | rfl | exact Nat.le_refl _ | exact fun _ _ => rfl | exact rowEq0 _ _)
        all_goals first | exact q | exact q2 | (dsimp only; rw [hxl]; rfl) | (dsimp only; rw [hyl]; rfl) | (dsimp only; rw [hxl]; done) | (dsimp only; rw [hyl]; done) | (dsimp only; omega) | omega | skip
      · have hx : ¬ x = 0 := beq_eq_false_iff_ne.1 hx
        rw [if_neg hx] at hst
        conv => whnf
        refine ⟨?_, (k, n + 1, l, y, e2), ⟨?_, ?_, ?_, ?_, ?_⟩, ?_, rfl, rfl, ?_, ?_⟩
        · (try conv => whnf)
          (repeat' (first | exact True.intro | exact fun _ h => h | refine inR64_of ?_ ?_ | apply And.intro | refine maxLen_ge ?_)) <;> (first | omega | (dsimp only; omega))
        · dsimp only; omega
        · dsimp only; rw [← hni]; exact hst
        · dsimp only; omega
        · dsimp only; omega
        · dsimp only; omega
        · dsimp only; omega
        all_goals repeat' (first | exact True.intro | refine leF_cons rfl ?_ ?_ | refine leS_cons rfl ?_ ?_ | (show PLe _ _ _ _; conv => whnf) | (show SLe _ _ _ _; conv => whnf) | (show PLeL _ _ _ _; conv => whnf) | apply And.intro | rfl | exact Nat.le_refl _ | exact fun _ _ => rfl | exact rowEq0 _ _)
        all_goals first | (dsimp only; omega) | omega | skip
    · have hc : (bif decide ((n : Int) < N) then decide ((l.length : Int) < 3) else false) = false := hc
      simp only [bif_t, bif_f, decide_eq_true_eq, decide_eq_false_iff_not, Bool.not_eq_true', Bool.not_eq_false', Bool.and_eq_true, Bool.or_eq_true, Bool.and_eq_false_iff, Bool.or_eq_false_iff, beq_iff_eq, bne_iff_ne, beq_eq_false_iff_ne, bne_eq_false_iff_eq, reduceCtorEq, false_and, and_false, true_and, and_true, or_false, false_or, or_true, true_or, not_true_eq_false, not_false_eq_true, Int.toNat_zero] at hc
      have hp : (l, y, e) = R0 := by
        cases k with
        | zero => rw [csI] at k2; exact k2
        | succ k =>
          rw [csI_succ, if_neg (by omega)] at k2
          exact k2
      rw [← hp]
      conv => whnf
      refine ⟨?_, [], ?_⟩
      · (try conv => whnf)
        (repeat' (first | exact True.intro | exact fun _ h => h | refine inR64_of ?_ ?_ | apply And.intro | refine maxLen_ge ?_)) <;> (first | omega | (dsimp only; omega))
      conv => whnf
      refine ⟨rfl, ?_, ?_, trivial⟩
      all_goals repeat' (first | exact True.intro | refine leF_cons rfl ?_ ?_ | refine leS_cons rfl ?_ ?_ | (show PLe _ _ _ _; conv => whnf) | (show SLe _ _ _ _; conv => whnf) | (show PLeL _ _ _ _; conv => whnf) | apply And.intro | rfl | exact Nat.le_refl _ | exact fun _ _ => rfl | exact rowEq0 _ _)
end Pv
end Go.Proofs.YtafnkpmoolbjjaaDoor
/- LAW 42, THE WALKS: the example of the chapter. -/
set_option linter.unusedSimpArgs false
set_option linter.unusedVariables false
namespace Go.Proofs.YtafnkpmoolbjjaaDoor
namespace Pv
def c7 : C := (.seq (.reg [⟨(some 0), 0, none, .mv (.c (.bool false))⟩])
  (.seq (.reg [⟨(some 13), 208, none, .bd [(.int .i64 0), (.int .i64 0), (.int .i64 0), (.int .i64 0)] [(0, 1, (.c (.int .i64 3))), (2, 1, (.c (.int .i64 1))), (3, 1, (.c (.int .i64 (-1))))]⟩,
    ⟨(some 14), 224, none, .bd [(.int .i64 0), (.int .i64 0), (.int .i64 0), (.int .i64 0)] [(0, 1, (.c (.int .i64 4))), (2, 1, (.c (.int .i64 1)))]⟩,
    ⟨(some 15), 240, none, .bd [(.int .i64 0), (.int .i64 0), (.int .i64 0), (.int .i64 0)] [(0, 1, (.c (.int .i64 5))), (2, 1, (.c (.int .i64 1))), (3, 1, (.c (.int .i64 (-2))))]⟩,
    ⟨(some 16), 256, none, .bs 41 4 [(.t 13), (.t 14), (.t 15)]⟩,
    ⟨(some 1), 16, none, .mv (.t 16)⟩])
  (.seq (.reg [⟨(some 18), 288, none, .mv (.t 1)⟩,
    ⟨(some 19), 304, none, .call (.c (.fn (.func 16) [] [])) [(.t 18)]⟩,
    ⟨(some 17), 272, none, .mv (.t 19)⟩,
    ⟨(some 20), 320, none, .ex (.t 17) 0⟩,
    ⟨(some 21), 336, none, .ex (.t 17) 1⟩,
    ⟨(some 22), 352, none, .ex (.t 17) 2⟩,
    ⟨(some 2), 32, none, .al [(.int .i64 0), (.int .i64 0), (.int .i64 0), (.int .i64 0)]⟩,
    ⟨none, 0, none, .st 4 (.t 2) (.t 20)⟩,
    ⟨(some 3), 48, none, .mv (.t 21)⟩,
    ⟨(some 4), 64, none, .mv (.t 22)⟩])
  (.seq (.reg [⟨(some 24), 384, none, .mv (.t 1)⟩,
    ⟨(some 25), 400, none, .slc 4 (.t 24) none (some (.c (.int .i64 2)))⟩,
    ⟨(some 26), 416, none, .call (.c (.fn (.func 15) [] [])) [(.t 25)]⟩,
    ⟨(some 23), 368, none, .mv (.t 26)⟩,
    ⟨(some 27), 432, none, .ex (.t 23) 0⟩,
    ⟨(some 28), 448, none, .ex (.t 23) 1⟩,
    ⟨(some 5), 80, none, .mv (.t 27)⟩,
    ⟨(some 6), 96, none, .mv (.t 28)⟩])
  (.seq (.reg [⟨(some 30), 480, none, .mv (.t 5)⟩,
    ⟨(some 31), 496, none, .call (.c (.fn (.func 12) [] [])) [(.t 30)]⟩,
    ⟨(some 29), 464, none, .mv (.t 31)⟩,
    ⟨(some 32), 512, none, .ex (.t 29) 0⟩,
    ⟨(some 33), 528, none, .ex (.t 29) 1⟩,
    ⟨(some 34), 544, none, .ex (.t 29) 2⟩,
    ⟨(some 7), 112, none, .mv (.t 32)⟩,
    ⟨(some 8), 128, none, .mv (.t 33)⟩,
    ⟨(some 9), 144, none, .mv (.t 34)⟩])
  (.seq (.reg [⟨(some 36), 576, none, .call (.c (.fn (.func 12) [] [])) [(.c (.str [115, 116, 101, 112, 32, 49, 32, 115, 105, 116, 101, 32, 48, 32, 99, 111, 110, 100, 105, 116, 105, 111, 110, 32, 50, 32, 98, 121, 32, 120, 10]))]⟩,
    ⟨(some 35), 560, none, .mv (.t 36)⟩,
    ⟨(some 37), 592, none, .ex (.t 35) 0⟩,
    ⟨(some 38), 608, none, .ex (.t 35) 1⟩,
    ⟨(some 39), 624, none, .ex (.t 35) 2⟩,
    ⟨(some 10), 160, none, .mv (.t 37)⟩,
    ⟨(some 11), 176, none, .mv (.t 38)⟩,
    ⟨(some 12), 192, none, .mv (.t 39)⟩])
  (.seq (.drw [⟨(some 40), 640, none, .mv (.t 4)⟩,
    ⟨(some 41), 656, none, .mv (.t 40)⟩,
    ⟨(some 42), 672, (some (41, true)), .mv (.t 3)⟩,
    ⟨(some 43), 688, (some (41, true)), .bi false .eql (.t 42) (.c (.int .i64 3))⟩,
    ⟨(some 44), 704, none, .pick (.t 41) (.t 43) (.c (.bool false))⟩,
    ⟨(some 45), 720, none, .mv (.t 44)⟩,
    ⟨(some 46), 736, (some (45, true)), .ld 4 true (.t 2)⟩,
    ⟨(some 47), 752, (some (45, true)), .mv (.t 1)⟩,
    ⟨(some 48), 768, (some (45, true)), .ia 4 (.t 47) (.c (.int .i64 0))⟩,
    ⟨(some 49), 784, (some (45, true)), .ld 4 true (.t 48)⟩,
    ⟨(some 50), 800, (some (45, true)), .eqa false [0, 0, 0, 0] (.t 46) (.t 49)⟩,
    ⟨(some 51), 816, none, .pick (.t 45) (.t 50) (.c (.bool false))⟩,
    ⟨(some 52), 832, none, .mv (.t 51)⟩,
    ⟨(some 53), 848, (some (52, true)), .mv (.t 6)⟩,
    ⟨(some 54), 864, (some (52, true)), .bi false .eql (.t 53) (.c (.int .i64 0))⟩,
    ⟨(some 55), 880, none, .pick (.t 52) (.t 54) (.c (.bool false))⟩,
    ⟨(some 56), 896, none, .mv (.t 55)⟩,
    ⟨(some 57), 912, (some (56, true)), .mv (.t 9)⟩,
    ⟨(some 58), 928, (some (56, true)), .bi false .eql (.t 57) (.c (.int .i64 0))⟩,
    ⟨(some 59), 944, none, .pick (.t 56) (.t 58) (.c (.bool false))⟩,
    ⟨(some 60), 960, none, .mv (.t 59)⟩,
    ⟨(some 61), 976, (some (60, true)), .mv (.t 8)⟩,
    ⟨(some 62), 992, (some (60, true)), .bi false .eql (.t 61) (.c (.int .i64 0))⟩,
    ⟨(some 63), 1008, none, .pick (.t 60) (.t 62) (.c (.bool false))⟩,
    ⟨(some 64), 1024, none, .mv (.t 63)⟩,
    ⟨(some 65), 1040, (some (64, true)), .mv (.t 7)⟩,
    ⟨(some 66), 1056, (some (64, true)), .len (.t 65)⟩,
    ⟨(some 67), 1072, (some (64, true)), .bi false .eql (.t 66) (.c (.int .i64 2))⟩,
    ⟨(some 68), 1088, none, .pick (.t 64) (.t 67) (.c (.bool false))⟩,
    ⟨(some 69), 1104, none, .mv (.t 68)⟩,
    ⟨(some 70), 1120, (some (69, true)), .mv (.t 7)⟩,
    ⟨(some 71), 1136, (some (69, true)), .ia 4 (.t 70) (.c (.int .i64 0))⟩,
    ⟨(some 72), 1152, (some (69, true)), .ld 4 true (.t 71)⟩,
    ⟨(some 73), 1168, (some (69, true)), .mv (.t 1)⟩,
    ⟨(some 74), 1184, (some (69, true)), .ia 4 (.t 73) (.c (.int .i64 0))⟩,
    ⟨(some 75), 1200, (some (69, true)), .ld 4 true (.t 74)⟩,
    ⟨(some 76), 1216, (some (69, true)), .eqa false [0, 0, 0, 0] (.t 72) (.t 75)⟩,
    ⟨(some 77), 1232, none, .pick (.t 69) (.t 76) (.c (.bool false))⟩,
    ⟨(some 78), 1248, none, .mv (.t 77)⟩,
    ⟨(some 79), 1264, (some (78, true)), .mv (.t 12)⟩,
    ⟨(some 80), 1280, (some (78, true)), .bi false .eql (.t 79) (.c (.int .i64 7))⟩,
    ⟨(some 81), 1296, none, .pick (.t 78) (.t 80) (.c (.bool false))⟩,
    ⟨(some 82), 1312, none, .mv (.t 81)⟩,
    ⟨(some 83), 1328, (some (82, true)), .mv (.t 11)⟩,
    ⟨(some 84), 1344, (some (82, true)), .bi false .eql (.t 83) (.c (.int .i64 1))⟩,
    ⟨(some 85), 1360, none, .pick (.t 82) (.t 84) (.c (.bool false))⟩,
    ⟨(some 86), 1376, none, .mv (.t 85)⟩,
    ⟨(some 87), 1392, (some (86, true)), .mv (.t 5)⟩,
    ⟨(some 88), 1408, (some (86, true)), .bi false .eql (.t 87) (.c (.str [115, 116, 101, 112, 32, 51, 32, 115, 105, 116, 101, 32, 48, 32, 99, 111, 110, 100, 105, 116, 105, 111, 110, 32, 49, 32, 98, 121, 32, 98, 111, 117, 110, 100, 115, 10, 115, 116, 101, 112, 32, 52, 32, 115, 105, 116, 101, 32, 48, 32, 99, 111, 110, 100, 105, 116, 105, 111, 110, 32, 49, 32, 98, 121, 32, 48, 10]))⟩,
    ⟨(some 89), 1424, none, .pick (.t 86) (.t 88) (.c (.bool false))⟩,
    ⟨(some 0), 0, none, .mv (.t 89)⟩]
    [(6, 7, 46), (6, 8, 46), (6, 9, 46), (30, 33, 70), (30, 34, 70), (30, 35, 70), (31, 33, 71), (31, 34, 71), (31, 35, 71), (32, 33, 72), (32, 34, 72), (32, 35, 72)])
  .ret)))))))
theorem fits7 : fits Tryd.prog false Tryd.f7 0 90 [(0, none)] = some c7.er := by kernel_rfl
def s3 : List Vi := [⟨3, 0, 1, -1⟩, ⟨4, 0, 1, 0⟩, ⟨5, 0, 1, -2⟩]
def s2 : List Vi := [⟨3, 0, 1, -1⟩, ⟨4, 0, 1, 0⟩]
def snT : List UInt8 := [115, 116, 101, 112, 32, 51, 32, 115, 105, 116, 101, 32, 48, 32, 99, 111, 110, 100, 105, 116, 105, 111, 110, 32, 49, 32, 98, 121, 32, 98, 111, 117, 110, 100, 115, 10, 115, 116, 101, 112, 32, 52, 32, 115, 105, 116, 101, 32, 48, 32, 99, 111, 110, 100, 105, 116, 105, 111, 110, 32, 49, 32, 98, 121, 32, 48, 10]
def snB : List UInt8 := [115, 116, 101, 112, 32, 49, 32, 115, 105, 116, 101, 32, 48, 32, 99, 111, 110, 100, 105, 116, 105, 111, 110, 32, 50, 32, 98, 121, 32, 120, 10]
theorem s3_best : bestF s3 3 = (⟨3, 0, 1, -1⟩, 3) := by
  have h1 : (bestF s3 3).1 = ⟨3, 0, 1, -1⟩ := by decide +kernel
  have h2 : (bestF s3 3).2 = 3 := by decide +kernel
  rw [← h1, ← h2]
theorem s2_fmt : formatV s2 = (snT, 0) := by decide +kernel
theorem s2_parse : parseV snT = (s2, 0, 0) := by decide +kernel
theorem sB_parse : parseV snB = ([], 1, 7) := by decide +kernel
theorem s3_rows : RowEq 3 (fun i => [eVi ⟨3, 0, 1, -1⟩, eVi ⟨4, 0, 1, 0⟩, eVi ⟨5, 0, 1, -2⟩].getD i []) (fl eVi s3) := fun i hi => by
  match i, hi with
  | 0, _ => rfl
  | 1, _ => rfl
  | 2, _ => rfl
theorem s3_V : ∀ i, i < s3.length → -9223372036854775808 ≤ (s3.getD i default).t ∧ (s3.getD i default).t ≤ 9223372036854775807 := fun i hi => by
  match i, hi with
  | 0, _ => decide
  | 1, _ => decide
  | 2, _ => decide
theorem s2_V : ∀ i, i < s2.length → V64 (s2.getD i default) := fun i hi => by
  match i, hi with
  | 0, _ => unfold V64 s2; decide
  | 1, _ => unfold V64 s2; decide
set_option maxRecDepth 100000 in
set_option maxHeartbeats 16000000 in
theorem call7 : PureCall Tryd.prog 7 [] [] ⟨.bool true, [], []⟩ := by
  refine pure_call mix Tryd.func7 fits7 rfl ?_
  conv => whnf
  refine ⟨_, fun _ => PureCall.arg_le (call16 2 s3 (by decide) s3_V) rfl (by
    all_goals repeat' (first | exact True.intro | refine leF_cons rfl ?_ ?_ | refine leS_cons rfl ?_ ?_ | (show PLe _ _ _ _; conv => whnf) | (show SLe _ _ _ _; conv => whnf) | (show PLeL _ _ _ _; conv => whnf) | apply And.intro | rfl | exact Nat.le_refl _ | exact fun _ _ => rfl | exact rowEq0 _ _)
    all_goals first | exact s3_rows | skip), ?_⟩
  rw [show s3.length = 3 from rfl, s3_best]
  conv => whnf
  refine ⟨_, fun _ => PureCall.arg_le (call15 2 s2 (by decide) s2_V) rfl (by
    all_goals repeat' (first | exact True.intro | refine leF_cons rfl ?_ ?_ | refine leS_cons rfl ?_ ?_ | (show PLe _ _ _ _; conv => whnf) | (show SLe _ _ _ _; conv => whnf) | (show PLeL _ _ _ _; conv => whnf) | apply And.intro | rfl | exact Nat.le_refl _ | exact fun _ _ => rfl | exact rowEq0 _ _)
    all_goals first | (intro i hi; match i, hi with | 0, _ => rfl | 1, _ => rfl) | skip), ?_⟩
  rw [s2_fmt]
  conv => whnf
  refine ⟨_, fun _ => call12 snT (by decide), ?_⟩
  rw [s2_parse]
  conv => whnf
  refine ⟨_, fun _ => call12 snB (by decide), ?_⟩
  rw [sB_parse]
  conv => whnf
  refine ⟨rfl, ?_⟩
  conv => whnf
  refine ⟨?_, [], ?_⟩
  · (try conv => whnf)
    (repeat' (first | exact True.intro | exact fun _ h => h | refine inR64_of ?_ ?_ | apply And.intro | refine maxLen_ge ?_)) <;> (first | omega | decide | (dsimp only; omega) | (dsimp only [List.length_cons, List.length_nil]; omega) | (intro hg; rw [hg]; rfl) | (intro hg hh; rw [hg, hh]; rfl) | (intro hg; simp [-List.getD_eq_getElem?_getD, -Int.default_eq_zero] at hg; first | omega | (refine inR64_of ?_ ?_ <;> omega) | (constructor <;> omega)) | (simp [-List.getD_eq_getElem?_getD, -Int.default_eq_zero]; done))
  conv => whnf
  refine ⟨rfl, ?_, trivial, trivial⟩
  all_goals repeat' (first | exact True.intro | refine leF_cons rfl ?_ ?_ | refine leS_cons rfl ?_ ?_ | (show PLe _ _ _ _; conv => whnf) | (show SLe _ _ _ _; conv => whnf) | (show PLeL _ _ _ _; conv => whnf) | apply And.intro | rfl | exact Nat.le_refl _ | exact fun _ _ => rfl | exact rowEq0 _ _)
end Pv
end Go.Proofs.YtafnkpmoolbjjaaDoor
set_option linter.unusedSimpArgs false
set_option linter.unusedVariables false
namespace Go.Proofs.YtafnkpmoolbjjaaDoor
namespace Pv
def c6L1 : C := (.seq (.reg [⟨(some 34), 544, none, .bi true .lss (.t 33) (.t 32)⟩])
  (.seq (.cond (.t 34) .skip (.exit 0))
  (.seq (.block 1 (.seq (.reg [⟨(some 35), 560, none, .ia 1 (.t 31) (.t 33)⟩,
    ⟨(some 36), 576, none, .ld 1 false (.t 35)⟩,
    ⟨(some 9), 144, none, .mv (.t 36)⟩])
  (.reg [⟨(some 37), 592, none, .mv (.t 7)⟩,
    ⟨(some 38), 608, none, .mv (.t 9)⟩,
    ⟨(some 39), 624, none, .len (.t 38)⟩,
    ⟨(some 40), 640, none, .bi true .add (.c (.int .i64 1)) (.t 39)⟩,
    ⟨(some 41), 656, none, .bi true .add (.t 37) (.t 40)⟩,
    ⟨(some 7), 112, none, .mv (.t 41)⟩])))
  (.reg [⟨(some 42), 672, none, .bi true .add (.t 33) (.c (.int .i64 1))⟩,
    ⟨(some 33), 528, none, .mv (.t 42)⟩]))))
def c6L3 : C := (.seq (.reg [⟨(some 81), 1296, none, .bi true .lss (.t 80) (.t 79)⟩])
  (.seq (.cond (.t 81) .skip (.exit 4))
  (.seq (.block 5 (.seq (.reg [⟨(some 82), 1312, none, .ia 1 (.t 78) (.t 80)⟩,
    ⟨(some 83), 1328, none, .ld 1 false (.t 82)⟩,
    ⟨(some 18), 288, none, .mv (.t 83)⟩])
  (.seq (.reg [⟨(some 85), 1360, none, .mv (.t 16)⟩,
    ⟨(some 86), 1376, none, .mv (.t 18)⟩,
    ⟨(some 87), 1392, none, .call (.c (.fn (.func 20) [] [])) [(.t 85), (.t 86)]⟩,
    ⟨(some 84), 1344, none, .mv (.t 87)⟩,
    ⟨(some 88), 1408, none, .ex (.t 84) 0⟩,
    ⟨(some 89), 1424, none, .ex (.t 84) 1⟩,
    ⟨(some 19), 304, none, .mv (.t 88)⟩,
    ⟨(some 20), 320, none, .mv (.t 89)⟩])
  (.seq (.reg [⟨(some 91), 1456, none, .mv (.t 16)⟩,
    ⟨(some 92), 1472, none, .mv (.t 18)⟩,
    ⟨(some 93), 1488, none, .call (.c (.fn (.func 21) [] [])) [(.t 91), (.t 92)]⟩,
    ⟨(some 90), 1440, none, .mv (.t 93)⟩,
    ⟨(some 94), 1504, none, .ex (.t 90) 0⟩,
    ⟨(some 95), 1520, none, .ex (.t 90) 1⟩,
    ⟨(some 21), 336, none, .mv (.t 94)⟩,
    ⟨(some 22), 352, none, .mv (.t 95)⟩])
  (.seq (.seq (.reg [⟨(some 96), 1536, none, .mv (.t 20)⟩,
    ⟨(some 97), 1552, none, .mv (.t 22)⟩,
    ⟨(some 98), 1568, none, .bi true .neq (.t 96) (.t 97)⟩,
    ⟨(some 99), 1584, none, .mv (.t 98)⟩,
    ⟨(some 100), 1600, (some (99, false)), .mv (.t 19)⟩,
    ⟨(some 101), 1616, (some (99, false)), .mv (.t 21)⟩,
    ⟨(some 102), 1632, (some (99, false)), .call (.c (.fn (.func 22) [] [])) [(.t 100), (.t 101)]⟩,
    ⟨(some 103), 1648, (some (99, false)), .un true .not (.t 102)⟩,
    ⟨(some 104), 1664, none, .pick (.t 99) (.c (.bool true)) (.t 103)⟩,
    ⟨(some 105), 1680, none, .mv (.t 104)⟩,
    ⟨(some 106), 1696, (some (105, false)), .mv (.t 16)⟩,
    ⟨(some 107), 1712, (some (105, false)), .mv (.t 18)⟩,
    ⟨(some 108), 1728, (some (105, false)), .call (.c (.fn (.func 23) [] [])) [(.t 106), (.t 107)]⟩,
    ⟨(some 109), 1744, (some (105, false)), .mv (.t 16)⟩,
    ⟨(some 110), 1760, (some (105, false)), .mv (.t 18)⟩,
    ⟨(some 111), 1776, (some (105, false)), .call (.c (.fn (.func 24) [] [])) [(.t 109), (.t 110)]⟩,
    ⟨(some 112), 1792, (some (105, false)), .bib true (.t 108) (.t 111)⟩,
    ⟨(some 113), 1808, none, .pick (.t 105) (.c (.bool true)) (.t 112)⟩])
  (.cond (.t 113) (.seq (.reg [⟨(some 6), 96, none, .mv (.c (.bool false))⟩])
  .ret) .skip))
  (.seq (.reg [⟨(some 115), 1840, none, .mv (.t 18)⟩,
    ⟨(some 116), 1856, none, .call (.c (.fn (.func 16) [] [])) [(.t 115)]⟩,
    ⟨(some 114), 1824, none, .mv (.t 116)⟩,
    ⟨(some 117), 1872, none, .ex (.t 114) 0⟩,
    ⟨(some 118), 1888, none, .ex (.t 114) 1⟩,
    ⟨(some 119), 1904, none, .ex (.t 114) 2⟩,
    ⟨(some 23), 368, none, .al [(.int .i64 0), (.int .i64 0), (.int .i64 0), (.int .i64 0)]⟩,
    ⟨none, 0, none, .st 4 (.t 23) (.t 117)⟩,
    ⟨(some 24), 384, none, .mv (.t 118)⟩,
    ⟨(some 25), 400, none, .mv (.t 119)⟩])
  (.seq (.reg [⟨(some 121), 1936, none, .mv (.t 18)⟩,
    ⟨(some 122), 1952, none, .call (.c (.fn (.func 25) [] [])) [(.t 121)]⟩,
    ⟨(some 120), 1920, none, .mv (.t 122)⟩,
    ⟨(some 123), 1968, none, .ex (.t 120) 0⟩,
    ⟨(some 124), 1984, none, .ex (.t 120) 1⟩,
    ⟨(some 125), 2000, none, .ex (.t 120) 2⟩,
    ⟨(some 26), 416, none, .al [(.int .i64 0), (.int .i64 0), (.int .i64 0), (.int .i64 0)]⟩,
    ⟨none, 0, none, .st 4 (.t 26) (.t 123)⟩,
    ⟨(some 27), 432, none, .mv (.t 124)⟩,
    ⟨(some 28), 448, none, .mv (.t 125)⟩])
  (.seq (.reg [⟨(some 126), 2016, none, .ld 4 true (.t 23)⟩,
    ⟨(some 127), 2032, none, .ld 4 true (.t 26)⟩,
    ⟨(some 128), 2048, none, .eqa true [0, 0, 0, 0] (.t 126) (.t 127)⟩,
    ⟨(some 129), 2064, none, .mv (.t 128)⟩,
    ⟨(some 130), 2080, (some (129, false)), .mv (.t 24)⟩,
    ⟨(some 131), 2096, (some (129, false)), .mv (.t 27)⟩,
    ⟨(some 132), 2112, (some (129, false)), .bi true .neq (.t 130) (.t 131)⟩,
    ⟨(some 133), 2128, none, .pick (.t 129) (.c (.bool true)) (.t 132)⟩,
    ⟨(some 134), 2144, none, .mv (.t 133)⟩,
    ⟨(some 135), 2160, (some (134, false)), .mv (.t 25)⟩,
    ⟨(some 136), 2176, (some (134, false)), .mv (.t 28)⟩,
    ⟨(some 137), 2192, (some (134, false)), .bib true (.t 135) (.t 136)⟩,
    ⟨(some 138), 2208, none, .pick (.t 134) (.c (.bool true)) (.t 137)⟩])
  (.cond (.t 138) (.seq (.reg [⟨(some 6), 96, none, .mv (.c (.bool false))⟩])
  .ret) .skip)))))))))
  (.reg [⟨(some 139), 2224, none, .bi true .add (.t 80) (.c (.int .i64 1))⟩,
    ⟨(some 80), 1280, none, .mv (.t 139)⟩]))))
def c6L2 : C := (.seq (.reg [⟨(some 73), 1168, none, .bi true .lss (.t 72) (.t 71)⟩])
  (.seq (.cond (.t 73) .skip (.exit 2))
  (.seq (.block 3 (.seq (.reg [⟨(some 74), 1184, none, .ia 1 (.t 70) (.t 72)⟩,
    ⟨(some 75), 1200, none, .ld 1 false (.t 74)⟩,
    ⟨(some 16), 256, none, .mv (.t 75)⟩])
  (.seq (.reg [⟨(some 76), 1216, none, .mv (.t 1)⟩,
    ⟨(some 77), 1232, none, .mv (.t 14)⟩,
    ⟨(some 78), 1248, none, .bs 23 1 [(.t 76), (.t 77)]⟩,
    ⟨(some 79), 1264, none, .len (.t 78)⟩,
    ⟨(some 80), 1280, none, .mv (.c (.int .i64 0))⟩])
  (.block 4 (.loop c6L3)))))
  (.reg [⟨(some 140), 2240, none, .bi true .add (.t 72) (.c (.int .i64 1))⟩,
    ⟨(some 72), 1152, none, .mv (.t 140)⟩]))))
def c6 : C := (.seq (.reg [⟨(some 6), 96, none, .mv (.c (.bool false))⟩])
  (.seq (.seq (.reg [⟨(some 29), 464, none, .call (.c (.fn (.func 7) [] [])) []⟩,
    ⟨(some 30), 480, none, .un true .not (.t 29)⟩])
  (.cond (.t 30) (.seq (.reg [⟨(some 6), 96, none, .mv (.c (.bool false))⟩])
  .ret) .skip))
  (.seq (.reg [⟨(some 7), 112, none, .mv (.c (.int .i64 0))⟩])
  (.seq (.seq (.reg [⟨(some 31), 496, none, .mv (.t 2)⟩,
    ⟨(some 32), 512, none, .len (.t 31)⟩,
    ⟨(some 33), 528, none, .mv (.c (.int .i64 0))⟩])
  (.block 0 (.loop c6L1)))
  (.seq (.seq (.reg [⟨(some 43), 688, none, .mv (.t 0)⟩,
    ⟨(some 44), 704, none, .call (.c (.fn (.func 8) [] [])) [(.t 43)]⟩,
    ⟨(some 45), 720, none, .un true .not (.t 44)⟩,
    ⟨(some 46), 736, none, .mv (.t 45)⟩,
    ⟨(some 47), 752, (some (46, false)), .mv (.t 1)⟩,
    ⟨(some 48), 768, (some (46, false)), .len (.t 47)⟩,
    ⟨(some 49), 784, (some (46, false)), .bi true .gtr (.t 48) (.c (.int .i64 200))⟩,
    ⟨(some 50), 800, none, .pick (.t 46) (.c (.bool true)) (.t 49)⟩,
    ⟨(some 51), 816, none, .mv (.t 50)⟩,
    ⟨(some 52), 832, (some (51, false)), .mv (.t 7)⟩,
    ⟨(some 53), 848, (some (51, false)), .bi true .gtr (.t 52) (.c (.int .i64 400))⟩,
    ⟨(some 54), 864, none, .pick (.t 51) (.c (.bool true)) (.t 53)⟩])
  (.cond (.t 54) (.seq (.reg [⟨(some 6), 96, none, .mv (.c (.bool true))⟩])
  .ret) .skip))
  (.seq (.reg [⟨(some 55), 880, none, .mv (.t 0)⟩,
    ⟨(some 56), 896, none, .call (.c (.fn (.func 10) [] [])) [(.t 55)]⟩,
    ⟨(some 10), 160, none, .mv (.t 56)⟩])
  (.seq (.reg [⟨(some 58), 928, none, .mv (.t 10)⟩,
    ⟨(some 59), 944, none, .call (.c (.fn (.func 18) [] [])) [(.t 58)]⟩,
    ⟨(some 57), 912, none, .mv (.t 59)⟩,
    ⟨(some 60), 960, none, .ex (.t 57) 0⟩,
    ⟨(some 61), 976, none, .ex (.t 57) 1⟩,
    ⟨(some 11), 176, none, .al [(.int .i64 0), (.nil 4), (.nil 10)]⟩,
    ⟨none, 0, none, .st 3 (.t 11) (.t 60)⟩,
    ⟨(some 12), 192, none, .mv (.t 61)⟩])
  (.seq (.reg [⟨(some 62), 992, none, .mv (.t 10)⟩,
    ⟨(some 63), 1008, none, .ld 3 true (.t 11)⟩,
    ⟨(some 64), 1024, none, .call (.c (.fn (.func 19) [] [])) [(.t 62), (.t 63)]⟩,
    ⟨(some 13), 208, none, .mv (.t 64)⟩])
  (.seq (.reg [⟨(some 65), 1040, none, .mv (.t 10)⟩,
    ⟨(some 66), 1056, none, .mv (.t 13)⟩,
    ⟨(some 67), 1072, none, .call (.c (.fn (.func 9) [] [])) [(.t 65), (.t 66)]⟩,
    ⟨(some 14), 224, none, .mv (.t 67)⟩])
  (.seq (.seq (.reg [⟨(some 68), 1088, none, .mv (.t 2)⟩,
    ⟨(some 69), 1104, none, .mv (.t 13)⟩,
    ⟨(some 70), 1120, none, .bs 45 1 [(.t 68), (.t 69)]⟩,
    ⟨(some 71), 1136, none, .len (.t 70)⟩,
    ⟨(some 72), 1152, none, .mv (.c (.int .i64 0))⟩])
  (.block 2 (.loop c6L2)))
  (.seq (.reg [⟨(some 6), 96, none, .mv (.c (.bool true))⟩])
  .ret)))))))))))
theorem fits6 : fits Tryd.prog true Tryd.f6 3 141 [(6, none)] = some c6.er := by kernel_rfl
theorem wrap64t (n : Int) : IntKind.wrap .i64 n = (n + 9223372036854775808) % 18446744073709551616 - 9223372036854775808 := by
  simp [IntKind.wrap, IntKind.signed, IntKind.bits]
  omega
theorem cntL_len (C : List (List Cd)) : ∀ (l : List Vi) (out : List Int), out.length ≤ 9 → (cntL C out l).1.length ≤ 9
  | [], out, h => h
  | v :: r, out, h => by
    unfold cntL
    split
    · simp
    split
    · simp
    · exact cntL_len C r _ (by rw [List.length_set]; exact h)
theorem countF_len (C : List (List Cd)) (l : List Vi) : (countF C l).1.length ≤ 9 := by
  unfold countF
  split
  · simp
  · exact cntL_len C l _ (by simp)
def VT (l : List Vi) : Prop := ∀ i, i < l.length → -9223372036854775808 ≤ (l.getD i default).t ∧ (l.getD i default).t ≤ 9223372036854775807
set_option maxRecDepth 100000 in
set_option maxHeartbeats 16000000 in
theorem call6 (t0 : List Int) (raw : List Vi) (C : List (List Cd)) (hV : VT raw) (hCl : C.length ≤ 4611686018427387904) (hC : ∀ i, i < C.length → (C.getD i default).length ≤ 4611686018427387904) :
    PureCall Tryd.prog 6 [.sl 1 1 t0.length (fl eInt t0), .sl 1 4 raw.length (fl eVi raw), .sl 1 1 C.length (fl (eCs 1) C)] [] ⟨.bool true, [], []⟩ := by
  refine pure_call mix Tryd.func6 fits6 rfl ?_
  conv => whnf
  refine ⟨_, fun _ => call7, ?_⟩
  conv => whnf
  refine ⟨?_, fun hc => (by cases hc), fun _ => ?_⟩
  · (try conv => whnf)
    (repeat' (first | exact True.intro | exact fun _ h => h | refine inR64_of ?_ ?_ | apply And.intro | refine maxLen_ge ?_)) <;> (first | omega | (dsimp only; omega))
  conv => whnf
  refine ⟨trivial, ?_⟩
  refine LSem.loop (n := 141) mix (α := Nat × Int) (fun x => x.1 ≤ C.length)
    (fun x => [(0, .sl 1 1 t0.length (fl eInt t0)), (1, .sl 1 4 raw.length (fl eVi raw)), (2, .sl 1 1 C.length (fl (eCs 1) C)), (7, .int .i64 x.2), (31, .sl 1 1 C.length (fl (eCs 1) C)), (32, .int .i64 C.length), (33, .int .i64 x.1)])
    (fun _ => []) (fun x => C.length - x.1) (0, 0) ?_ ?_ ?_
  · exact Nat.zero_le _
  · refine ⟨rfl, rfl, ?_, ?_⟩
    all_goals repeat' (first | exact True.intro | refine leF_cons rfl ?_ ?_ | refine leS_cons rfl ?_ ?_ | (show PLe _ _ _ _; conv => whnf) | (show SLe _ _ _ _; conv => whnf) | (show PLeL _ _ _ _; conv => whnf) | apply And.intro | rfl | exact Nat.le_refl _ | exact fun _ _ => rfl | exact rowEq0 _ _)
  · intro x hx
    obtain ⟨i, n⟩ := x
    dsimp only at hx
    have hj : ((i : Int)).toNat = i := by omega
    conv => whnf
    refine ⟨trivial, fun hc => ?_, fun hc => ?_⟩
    · replace hc := of_decide_eq_true hc
      have hlt : i < C.length := by
        have h : (i : Int) < C.length := hc
        omega
      have hwi : IntKind.wrap .i64 ((i : Int) + 1) = ((i + 1 : Nat) : Int) := by rw [wrap64t]; omega
      conv => whnf
      rw [hj]
      refine ⟨?_, (i + 1, IntKind.wrap .i64 (n + IntKind.wrap .i64 (1 + (C.getD i default).length))), hlt, ?_, rfl, rfl, ?_, ?_⟩
      · (try conv => whnf)
        (repeat' (first | exact True.intro | exact fun _ h => h | refine inR64_of ?_ ?_ | apply And.intro | refine maxLen_ge ?_)) <;> (first | omega | (dsimp only; omega))
      · dsimp only; omega
      all_goals repeat' (first | exact True.intro | refine leF_cons rfl ?_ ?_ | refine leS_cons rfl ?_ ?_ | (show PLe _ _ _ _; conv => whnf) | (show SLe _ _ _ _; conv => whnf) | (show PLeL _ _ _ _; conv => whnf) | apply And.intro | rfl | exact Nat.le_refl _ | exact fun _ _ => rfl | exact rowEq0 _ _)
      all_goals first | exact hwi | skip
    clear hc
    conv => whnf
    refine ⟨_, fun _ => call8 1 t0, ?_⟩
    conv => whnf
    refine ⟨?_, fun hc => ?_, fun hc => ?_⟩
    · (try conv => whnf)
      (repeat' (first | exact True.intro | exact fun _ h => h | refine inR64_of ?_ ?_ | apply And.intro | refine maxLen_ge ?_)) <;> (first | omega | decide | (dsimp only; omega) | (dsimp only [List.length_cons, List.length_nil]; omega) | (intro hg; rw [hg]; rfl) | (intro hg hh; rw [hg, hh]; rfl) | (intro hg; simp [-List.getD_eq_getElem?_getD, -Int.default_eq_zero] at hg; first | omega | (refine inR64_of ?_ ?_ <;> omega) | (constructor <;> omega)) | (simp [-List.getD_eq_getElem?_getD, -Int.default_eq_zero]; done))
    · conv => whnf
      refine ⟨?_, [], ?_⟩
      · (try conv => whnf)
        (repeat' (first | exact True.intro | exact fun _ h => h | refine inR64_of ?_ ?_ | apply And.intro | refine maxLen_ge ?_)) <;> (first | omega | (dsimp only; omega))
      conv => whnf
      refine ⟨rfl, ?_, trivial, trivial⟩
      all_goals repeat' (first | exact True.intro | refine leF_cons rfl ?_ ?_ | refine leS_cons rfl ?_ ?_ | (show PLe _ _ _ _; conv => whnf) | (show SLe _ _ _ _; conv => whnf) | (show PLeL _ _ _ _; conv => whnf) | apply And.intro | rfl | exact Nat.le_refl _ | exact fun _ _ => rfl | exact rowEq0 _ _)
    simp only [bif_t, bif_f, decide_eq_true_eq, decide_eq_false_iff_not, Bool.not_eq_true', Bool.not_eq_false', Bool.and_eq_true, Bool.or_eq_true, Bool.and_eq_false_iff, Bool.or_eq_false_iff, beq_iff_eq, bne_iff_ne, beq_eq_false_iff_ne, bne_eq_false_iff_eq, reduceCtorEq, false_and, and_false, true_and, and_true, or_false, false_or, or_true, true_or, not_true_eq_false, not_false_eq_true, Int.toNat_zero] at hc
    have hrl : raw.length ≤ 200 := by omega
    clear hc
    conv => whnf
    refine ⟨_, fun _ => call_new 1 t0, ?_⟩
    conv => whnf
    refine ⟨_, fun _ => call18 ⟨t0, 0⟩ (by dsimp only; omega), ?_⟩
    have hk := cascF_ok ⟨t0, 0⟩
    generalize cascF ⟨t0, 0⟩ = K at hk ⊢
    obtain ⟨⟨N, lk, sites⟩, sts, d1⟩ := K
    obtain ⟨_, _, hk3, _, hk5⟩ := hk
    dsimp only at hk3 hk5
    conv => whnf
    refine ⟨_, fun _ => call19 d1 N _ _ _ sites.length _ _ (by omega) (by omega), ?_⟩
    have hm := listsF_ok sites.length d1
    generalize listsF sites.length d1 = M at hm ⊢
    obtain ⟨M, d2⟩ := M
    obtain ⟨hm1, hm2, hm3⟩ := hm
    dsimp only at hm1 hm2 hm3
    conv => whnf
    refine ⟨_, fun _ => call9 _ 0 M d2 (by omega) (by omega) (fun i hi => by have := hm2 i hi; omega), ?_⟩
    have hvf := vioF_ok (C := M) (fun i hi => by have := hm2 i hi; omega) d2
    generalize vioF M d2 = W at hvf ⊢
    obtain ⟨l, d3⟩ := W
    obtain ⟨hl, hg, _⟩ := hvf
    dsimp only at hl hg
    have hVl : VT l := fun i hi => by have := (hg i hi).1; omega
    conv => whnf
    refine ⟨?_, ?_⟩
    · (try conv => whnf)
      (repeat' (first | exact True.intro | exact fun _ h => h | refine inR64_of ?_ ?_ | apply And.intro | refine maxLen_ge ?_)) <;> (first | omega | (dsimp only; omega))
    refine LSem.loop (n := 141) mix (α := Nat) (fun i => i ≤ 2)
      (fun i => [(1, .sl 1 4 raw.length (fl eVi raw)), (14, .sl 0 4 l.length (fl eVi l)), (70, .os 1120), (71, .int .i64 2), (72, .int .i64 i)])
      (fun i => [(1120, .row 1 45 1 2 (fun k => [[PV.sl 1 1 C.length (fl (eCs 1) C)], [.sl 0 1 M.length (fl (eCs 0) M)]].getD k []))]) (fun i => 2 - i) 0 ?_ ?_ ?_
    · exact Nat.zero_le _
    · refine ⟨rfl, rfl, ?_, ?_⟩
      all_goals repeat' (first | exact True.intro | refine leF_cons rfl ?_ ?_ | refine leS_cons rfl ?_ ?_ | (show PLe _ _ _ _; conv => whnf) | (show SLe _ _ _ _; conv => whnf) | (show PLeL _ _ _ _; conv => whnf) | apply And.intro | rfl | exact Nat.le_refl _ | exact fun _ _ => rfl | exact rowEq0 _ _)
    · intro i hi
      have h012 : i = 0 ∨ i = 1 ∨ i = 2 := by omega
      rcases h012 with rfl | rfl | rfl
      · conv => whnf
        refine ⟨trivial, fun _ => ?_, fun hc => (by cases hc)⟩
        conv => whnf
        refine ⟨?_, ?_⟩
        · (try conv => whnf)
          (repeat' (first | exact True.intro | exact fun _ h => h | refine inR64_of ?_ ?_ | apply And.intro | refine maxLen_ge ?_)) <;> (first | omega | (dsimp only; omega))
        refine LSem.loop (n := 141) mix (α := Nat) (fun k => k ≤ 2)
          (fun k => [(1, .sl 1 4 raw.length (fl eVi raw)), (14, .sl 0 4 l.length (fl eVi l)), (70, .os 1120), (71, .int .i64 2), (72, .int .i64 (0 : Nat)), (16, .sl 1 1 C.length (fl (eCs 1) C)), (78, .os 1248), (79, .int .i64 2), (80, .int .i64 k)])
          (fun k => [(1120, .row 1 45 1 2 (fun k => [[PV.sl 1 1 C.length (fl (eCs 1) C)], [.sl 0 1 M.length (fl (eCs 0) M)]].getD k [])), (1248, .row 1 23 1 2 (fun k => [[PV.sl 1 4 raw.length (fl eVi raw)], [.sl 0 4 l.length (fl eVi l)]].getD k []))]) (fun k => 2 - k) 0 ?_ ?_ ?_
        · exact Nat.zero_le _
        · refine ⟨rfl, rfl, ?_, ?_⟩
          all_goals repeat' (first | exact True.intro | refine leF_cons rfl ?_ ?_ | refine leS_cons rfl ?_ ?_ | (show PLe _ _ _ _; conv => whnf) | (show SLe _ _ _ _; conv => whnf) | (show PLeL _ _ _ _; conv => whnf) | apply And.intro | rfl | exact Nat.le_refl _ | exact fun _ _ => rfl | exact rowEq0 _ _)
        · intro k hk
          have h012 : k = 0 ∨ k = 1 ∨ k = 2 := by omega
          rcases h012 with rfl | rfl | rfl
          · conv => whnf
            refine ⟨trivial, fun _ => ?_, fun hc => (by cases hc)⟩
            conv => whnf
            refine ⟨_, fun _ => call20 _ 1 _ C raw hCl hC (by omega), ?_⟩
            conv => whnf
            refine ⟨_, fun _ => call21 _ 1 _ C raw hCl hC (by omega), ?_⟩
            have hfl := countF_len C raw
            generalize countF C raw = F at hfl ⊢
            conv => whnf
            refine ⟨_, fun _ => call22 _ _ F.1 F.1 (by omega), ?_⟩
            rw [show decide (F.1 = F.1) = true from decide_eq_true rfl]
            conv => whnf
            refine ⟨_, fun _ => call23 _ 1 _ C raw hCl hC (by omega), ?_⟩
            conv => whnf
            refine ⟨_, fun _ => call24 _ 1 _ C raw hCl hC (by omega), ?_⟩
            generalize prvF C raw = P
            conv => whnf
            refine ⟨?_, fun h => ?_, fun _ => ?_⟩
            · (try conv => whnf)
              (repeat' (first | exact True.intro | exact fun _ h => h | refine inR64_of ?_ ?_ | apply And.intro | refine maxLen_ge ?_)) <;> (first | omega | decide | (dsimp only; omega) | (dsimp only [List.length_cons, List.length_nil]; omega) | (intro hg; rw [hg]; rfl) | (intro hg hh; rw [hg, hh]; rfl) | (intro hg; simp [-List.getD_eq_getElem?_getD, -Int.default_eq_zero] at hg; first | omega | (refine inR64_of ?_ ?_ <;> omega) | (constructor <;> omega)) | (simp [-List.getD_eq_getElem?_getD, -Int.default_eq_zero]; done))
            · exfalso
              revert h
              simp
            conv => whnf
            refine ⟨_, fun _ => call16 _ raw (by omega) hV, ?_⟩
            conv => whnf
            refine ⟨_, fun _ => call25 _ raw (by omega) hV, ?_⟩
            generalize bestF raw (raw).length = B
            obtain ⟨v, m⟩ := B
            conv => whnf
            refine ⟨?_, fun h => ?_, fun _ => ?_⟩
            · (try conv => whnf)
              (repeat' (first | exact True.intro | exact fun _ h => h | refine inR64_of ?_ ?_ | apply And.intro | refine maxLen_ge ?_)) <;> (first | omega | decide | (dsimp only; omega) | (dsimp only [List.length_cons, List.length_nil]; omega) | (intro hg; rw [hg]; rfl) | (intro hg hh; rw [hg, hh]; rfl) | (intro hg; simp [-List.getD_eq_getElem?_getD, -Int.default_eq_zero] at hg; first | omega | (refine inR64_of ?_ ?_ <;> omega) | (constructor <;> omega)) | (simp [-List.getD_eq_getElem?_getD, -Int.default_eq_zero]; done))
            · exfalso
              revert h
              simp
            conv => whnf
            refine ⟨?_, 1, by omega, by omega, rfl, rfl, ?_, ?_⟩
            · (try conv => whnf)
              (repeat' (first | exact True.intro | exact fun _ h => h | refine inR64_of ?_ ?_ | apply And.intro | refine maxLen_ge ?_)) <;> (first | omega | (dsimp only; omega))
            all_goals repeat' (first | exact True.intro | refine leF_cons rfl ?_ ?_ | refine leS_cons rfl ?_ ?_ | (show PLe _ _ _ _; conv => whnf) | (show SLe _ _ _ _; conv => whnf) | (show PLeL _ _ _ _; conv => whnf) | apply And.intro | rfl | exact Nat.le_refl _ | exact fun _ _ => rfl | exact rowEq0 _ _)
          · conv => whnf
            refine ⟨trivial, fun _ => ?_, fun hc => (by cases hc)⟩
            conv => whnf
            refine ⟨_, fun _ => call20 _ 1 _ C l hCl hC (by omega), ?_⟩
            conv => whnf
            refine ⟨_, fun _ => call21 _ 1 _ C l hCl hC (by omega), ?_⟩
            have hfl := countF_len C l
            generalize countF C l = F at hfl ⊢
            conv => whnf
            refine ⟨_, fun _ => call22 _ _ F.1 F.1 (by omega), ?_⟩
            rw [show decide (F.1 = F.1) = true from decide_eq_true rfl]
            conv => whnf
            refine ⟨_, fun _ => call23 _ 1 _ C l hCl hC (by omega), ?_⟩
            conv => whnf
            refine ⟨_, fun _ => call24 _ 1 _ C l hCl hC (by omega), ?_⟩
            generalize prvF C l = P
            conv => whnf
            refine ⟨?_, fun h => ?_, fun _ => ?_⟩
            · (try conv => whnf)
              (repeat' (first | exact True.intro | exact fun _ h => h | refine inR64_of ?_ ?_ | apply And.intro | refine maxLen_ge ?_)) <;> (first | omega | decide | (dsimp only; omega) | (dsimp only [List.length_cons, List.length_nil]; omega) | (intro hg; rw [hg]; rfl) | (intro hg hh; rw [hg, hh]; rfl) | (intro hg; simp [-List.getD_eq_getElem?_getD, -Int.default_eq_zero] at hg; first | omega | (refine inR64_of ?_ ?_ <;> omega) | (constructor <;> omega)) | (simp [-List.getD_eq_getElem?_getD, -Int.default_eq_zero]; done))
            · exfalso
              revert h
              simp
            conv => whnf
            refine ⟨_, fun _ => call16 _ l (by omega) hVl, ?_⟩
            conv => whnf
            refine ⟨_, fun _ => call25 _ l (by omega) hVl, ?_⟩
            generalize bestF l (l).length = B
            obtain ⟨v, m⟩ := B
            conv => whnf
            refine ⟨?_, fun h => ?_, fun _ => ?_⟩
            · (try conv => whnf)
              (repeat' (first | exact True.intro | exact fun _ h => h | refine inR64_of ?_ ?_ | apply And.intro | refine maxLen_ge ?_)) <;> (first | omega | decide | (dsimp only; omega) | (dsimp only [List.length_cons, List.length_nil]; omega) | (intro hg; rw [hg]; rfl) | (intro hg hh; rw [hg, hh]; rfl) | (intro hg; simp [-List.getD_eq_getElem?_getD, -Int.default_eq_zero] at hg; first | omega | (refine inR64_of ?_ ?_ <;> omega) | (constructor <;> omega)) | (simp [-List.getD_eq_getElem?_getD, -Int.default_eq_zero]; done))
            · exfalso
              revert h
              simp
            conv => whnf
            refine ⟨?_, 2, by omega, by omega, rfl, rfl, ?_, ?_⟩
            · (try conv => whnf)
              (repeat' (first | exact True.intro | exact fun _ h => h | refine inR64_of ?_ ?_ | apply And.intro | refine maxLen_ge ?_)) <;> (first | omega | (dsimp only; omega))
            all_goals repeat' (first | exact True.intro | refine leF_cons rfl ?_ ?_ | refine leS_cons rfl ?_ ?_ | (show PLe _ _ _ _; conv => whnf) | (show SLe _ _ _ _; conv => whnf) | (show PLeL _ _ _ _; conv => whnf) | apply And.intro | rfl | exact Nat.le_refl _ | exact fun _ _ => rfl | exact rowEq0 _ _)
          · conv => whnf
            refine ⟨trivial, fun hc => (by cases hc), fun hc => ?_⟩
            conv => whnf
            refine ⟨?_, 1, by omega, by omega, rfl, rfl, ?_, ?_⟩
            · (try conv => whnf)
              (repeat' (first | exact True.intro | exact fun _ h => h | refine inR64_of ?_ ?_ | apply And.intro | refine maxLen_ge ?_)) <;> (first | omega | (dsimp only; omega))
            all_goals repeat' (first | exact True.intro | refine leF_cons rfl ?_ ?_ | refine leS_cons rfl ?_ ?_ | (show PLe _ _ _ _; conv => whnf) | (show SLe _ _ _ _; conv => whnf) | (show PLeL _ _ _ _; conv => whnf) | apply And.intro | rfl | exact Nat.le_refl _ | exact fun _ _ => rfl | exact rowEq0 _ _)
      · conv => whnf
        refine ⟨trivial, fun _ => ?_, fun hc => (by cases hc)⟩
        conv => whnf
        refine ⟨?_, ?_⟩
        · (try conv => whnf)
          (repeat' (first | exact True.intro | exact fun _ h => h | refine inR64_of ?_ ?_ | apply And.intro | refine maxLen_ge ?_)) <;> (first | omega | (dsimp only; omega))
        refine LSem.loop (n := 141) mix (α := Nat) (fun k => k ≤ 2)
          (fun k => [(1, .sl 1 4 raw.length (fl eVi raw)), (14, .sl 0 4 l.length (fl eVi l)), (70, .os 1120), (71, .int .i64 2), (72, .int .i64 (1 : Nat)), (16, .sl 1 1 M.length (fl (eCs 0) M)), (78, .os 1248), (79, .int .i64 2), (80, .int .i64 k)])
          (fun k => [(1120, .row 1 45 1 2 (fun k => [[PV.sl 1 1 C.length (fl (eCs 1) C)], [.sl 0 1 M.length (fl (eCs 0) M)]].getD k [])), (1248, .row 1 23 1 2 (fun k => [[PV.sl 1 4 raw.length (fl eVi raw)], [.sl 0 4 l.length (fl eVi l)]].getD k []))]) (fun k => 2 - k) 0 ?_ ?_ ?_
        · exact Nat.zero_le _
        · refine ⟨rfl, rfl, ?_, ?_⟩
          all_goals repeat' (first | exact True.intro | refine leF_cons rfl ?_ ?_ | refine leS_cons rfl ?_ ?_ | (show PLe _ _ _ _; conv => whnf) | (show SLe _ _ _ _; conv => whnf) | (show PLeL _ _ _ _; conv => whnf) | apply And.intro | rfl | exact Nat.le_refl _ | exact fun _ _ => rfl | exact rowEq0 _ _)
        · intro k hk
          have h012 : k = 0 ∨ k = 1 ∨ k = 2 := by omega
          rcases h012 with rfl | rfl | rfl
          · conv => whnf
            refine ⟨trivial, fun _ => ?_, fun hc => (by cases hc)⟩
            conv => whnf
            refine ⟨_, fun _ => call20 _ 0 _ M raw (by omega) (fun i hi => by have := hm2 i hi; omega) (by omega), ?_⟩
            conv => whnf
            refine ⟨_, fun _ => call21 _ 0 _ M raw (by omega) (fun i hi => by have := hm2 i hi; omega) (by omega), ?_⟩
            have hfl := countF_len M raw
            generalize countF M raw = F at hfl ⊢
            conv => whnf
            refine ⟨_, fun _ => call22 _ _ F.1 F.1 (by omega), ?_⟩
            rw [show decide (F.1 = F.1) = true from decide_eq_true rfl]
            conv => whnf
            refine ⟨_, fun _ => call23 _ 0 _ M raw (by omega) (fun i hi => by have := hm2 i hi; omega) (by omega), ?_⟩
            conv => whnf
            refine ⟨_, fun _ => call24 _ 0 _ M raw (by omega) (fun i hi => by have := hm2 i hi; omega) (by omega), ?_⟩
            generalize prvF M raw = P
            conv => whnf
            refine ⟨?_, fun h => ?_, fun _ => ?_⟩
            · (try conv => whnf)
              (repeat' (first | exact True.intro | exact fun _ h => h | refine inR64_of ?_ ?_ | apply And.intro | refine maxLen_ge ?_)) <;> (first | omega | decide | (dsimp only; omega) | (dsimp only [List.length_cons, List.length_nil]; omega) | (intro hg; rw [hg]; rfl) | (intro hg hh; rw [hg, hh]; rfl) | (intro hg; simp [-List.getD_eq_getElem?_getD, -Int.default_eq_zero] at hg; first | omega | (refine inR64_of ?_ ?_ <;> omega) | (constructor <;> omega)) | (simp [-List.getD_eq_getElem?_getD, -Int.default_eq_zero]; done))
            · exfalso
              revert h
              simp
            conv => whnf
            refine ⟨_, fun _ => call16 _ raw (by omega) hV, ?_⟩
            conv => whnf
            refine ⟨_, fun _ => call25 _ raw (by omega) hV, ?_⟩
            generalize bestF raw (raw).length = B
            obtain ⟨v, m⟩ := B
            conv => whnf
            refine ⟨?_, fun h => ?_, fun _ => ?_⟩
            · (try conv => whnf)
              (repeat' (first | exact True.intro | exact fun _ h => h | refine inR64_of ?_ ?_ | apply And.intro | refine maxLen_ge ?_)) <;> (first | omega | decide | (dsimp only; omega) | (dsimp only [List.length_cons, List.length_nil]; omega) | (intro hg; rw [hg]; rfl) | (intro hg hh; rw [hg, hh]; rfl) | (intro hg; simp [-List.getD_eq_getElem?_getD, -Int.default_eq_zero] at hg; first | omega | (refine inR64_of ?_ ?_ <;> omega) | (constructor <;> omega)) | (simp [-List.getD_eq_getElem?_getD, -Int.default_eq_zero]; done))
            · exfalso
              revert h
              simp
            conv => whnf
            refine ⟨?_, 1, by omega, by omega, rfl, rfl, ?_, ?_⟩
            · (try conv => whnf)
              (repeat' (first | exact True.intro | exact fun _ h => h | refine inR64_of ?_ ?_ | apply And.intro | refine maxLen_ge ?_)) <;> (first | omega | (dsimp only; omega))
            all_goals repeat' (first | exact True.intro | refine leF_cons rfl ?_ ?_ | refine leS_cons rfl ?_ ?_ | (show PLe _ _ _ _; conv => whnf) | (show SLe _ _ _ _; conv => whnf) | (show PLeL _ _ _ _; conv => whnf) | apply And.intro | rfl | exact Nat.le_refl _ | exact fun _ _ => rfl | exact rowEq0 _ _)
          · conv => whnf
            refine ⟨trivial, fun _ => ?_, fun hc => (by cases hc)⟩
            conv => whnf
            refine ⟨_, fun _ => call20 _ 0 _ M l (by omega) (fun i hi => by have := hm2 i hi; omega) (by omega), ?_⟩
            conv => whnf
            refine ⟨_, fun _ => call21 _ 0 _ M l (by omega) (fun i hi => by have := hm2 i hi; omega) (by omega), ?_⟩
            have hfl := countF_len M l
            generalize countF M l = F at hfl ⊢
            conv => whnf
            refine ⟨_, fun _ => call22 _ _ F.1 F.1 (by omega), ?_⟩
            rw [show decide (F.1 = F.1) = true from decide_eq_true rfl]
            conv => whnf
            refine ⟨_, fun _ => call23 _ 0 _ M l (by omega) (fun i hi => by have := hm2 i hi; omega) (by omega), ?_⟩
            conv => whnf
            refine ⟨_, fun _ => call24 _ 0 _ M l (by omega) (fun i hi => by have := hm2 i hi; omega) (by omega), ?_⟩
            generalize prvF M l = P
            conv => whnf
            refine ⟨?_, fun h => ?_, fun _ => ?_⟩
            · (try conv => whnf)
              (repeat' (first | exact True.intro | exact fun _ h => h | refine inR64_of ?_ ?_ | apply And.intro | refine maxLen_ge ?_)) <;> (first | omega | decide | (dsimp only; omega) | (dsimp only [List.length_cons, List.length_nil]; omega) | (intro hg; rw [hg]; rfl) | (intro hg hh; rw [hg, hh]; rfl) | (intro hg; simp [-List.getD_eq_getElem?_getD, -Int.default_eq_zero] at hg; first | omega | (refine inR64_of ?_ ?_ <;> omega) | (constructor <;> omega)) | (simp [-List.getD_eq_getElem?_getD, -Int.default_eq_zero]; done))
            · exfalso
              revert h
              simp
            conv => whnf
            refine ⟨_, fun _ => call16 _ l (by omega) hVl, ?_⟩
            conv => whnf
            refine ⟨_, fun _ => call25 _ l (by omega) hVl, ?_⟩
            generalize bestF l (l).length = B
            obtain ⟨v, m⟩ := B
            conv => whnf
            refine ⟨?_, fun h => ?_, fun _ => ?_⟩
            · (try conv => whnf)
              (repeat' (first | exact True.intro | exact fun _ h => h | refine inR64_of ?_ ?_ | apply And.intro | refine maxLen_ge ?_)) <;> (first | omega | decide | (dsimp only; omega) | (dsimp only [List.length_cons, List.length_nil]; omega) | (intro hg; rw [hg]; rfl) | (intro hg hh; rw [hg, hh]; rfl) | (intro hg; simp [-List.getD_eq_getElem?_getD, -Int.default_eq_zero] at hg; first | omega | (refine inR64_of ?_ ?_ <;> omega) | (constructor <;> omega)) | (simp [-List.getD_eq_getElem?_getD, -Int.default_eq_zero]; done))
            · exfalso
              revert h
              simp
            conv => whnf
            refine ⟨?_, 2, by omega, by omega, rfl, rfl, ?_, ?_⟩
            · (try conv => whnf)
              (repeat' (first | exact True.intro | exact fun _ h => h | refine inR64_of ?_ ?_ | apply And.intro | refine maxLen_ge ?_)) <;> (first | omega | (dsimp only; omega))
            all_goals repeat' (first | exact True.intro | refine leF_cons rfl ?_ ?_ | refine leS_cons rfl ?_ ?_ | (show PLe _ _ _ _; conv => whnf) | (show SLe _ _ _ _; conv => whnf) | (show PLeL _ _ _ _; conv => whnf) | apply And.intro | rfl | exact Nat.le_refl _ | exact fun _ _ => rfl | exact rowEq0 _ _)
          · conv => whnf
            refine ⟨trivial, fun hc => (by cases hc), fun hc => ?_⟩
            conv => whnf
            refine ⟨?_, 2, by omega, by omega, rfl, rfl, ?_, ?_⟩
            · (try conv => whnf)
              (repeat' (first | exact True.intro | exact fun _ h => h | refine inR64_of ?_ ?_ | apply And.intro | refine maxLen_ge ?_)) <;> (first | omega | (dsimp only; omega))
            all_goals repeat' (first | exact True.intro | refine leF_cons rfl ?_ ?_ | refine leS_cons rfl ?_ ?_ | (show PLe _ _ _ _; conv => whnf) | (show SLe _ _ _ _; conv => whnf) | (show PLeL _ _ _ _; conv => whnf) | apply And.intro | rfl | exact Nat.le_refl _ | exact fun _ _ => rfl | exact rowEq0 _ _)
      · conv => whnf
        refine ⟨trivial, fun hc => (by cases hc), fun hc => ?_⟩
        conv => whnf
        refine ⟨?_, [], ?_⟩
        · (try conv => whnf)
          (repeat' (first | exact True.intro | exact fun _ h => h | refine inR64_of ?_ ?_ | apply And.intro | refine maxLen_ge ?_)) <;> (first | omega | (dsimp only; omega))
        conv => whnf
        refine ⟨rfl, ?_, trivial, trivial⟩
        all_goals repeat' (first | exact True.intro | refine leF_cons rfl ?_ ?_ | refine leS_cons rfl ?_ ?_ | (show PLe _ _ _ _; conv => whnf) | (show SLe _ _ _ _; conv => whnf) | (show PLeL _ _ _ _; conv => whnf) | apply And.intro | rfl | exact Nat.le_refl _ | exact fun _ _ => rfl | exact rowEq0 _ _)
end Pv
end Go.Proofs.YtafnkpmoolbjjaaDoor
