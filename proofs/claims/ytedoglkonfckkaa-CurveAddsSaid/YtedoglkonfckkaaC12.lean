/- LAW 02: plain law: the sum of two curves has at each number the sum of both values, up to 1. -/
import Derived.Test.YtedoglkonfckkaaC10
import Derived.Test.YtedoglkonfckkaaC8
set_option linter.unusedSimpArgs false
set_option linter.unusedVariables false
namespace Go.Proofs.Ytedoglkonfckkaa
namespace Pv

theorem ring1 (dx t D E P1 P2 Q1 Q2 : Int) : D * E * (dx * (P1 + Q1) + t * ((P2 + Q2) - (P1 + Q1))) = (dx - t) * (E * (D * P1) + D * (E * Q1)) + t * (E * (D * P2) + D * (E * Q2)) := by grind
theorem ring2 (dx t D E n1 n2 nv m1 m2 mv : Int) (ln : dx * nv = (dx - t) * n1 + t * n2) (lm : dx * mv = (dx - t) * m1 + t * m2) : (dx - t) * (E * n1 + D * m1) + t * (E * n2 + D * m2) = dx * (E * nv + D * mv) := by grind
theorem ring3 (D E F : Int) (Pv Qv : Int) (h : F = Pv + Qv) : E * (D * Pv + D) + D * (E * Qv + E) = D * E * (F + 2) := by grind
theorem lossy {D E n1 m1 P1 Q1 : Int} (hD : 0 < D) (hE : 0 < E) (p1 : D * P1 ≤ n1 ∧ n1 < D * P1 + D) (q1 : E * Q1 ≤ m1 ∧ m1 < E * Q1 + E) (e1 : n1 = D * P1 ∨ m1 = E * Q1) : E * n1 + D * m1 ≤ E * (D * P1) + D * (E * Q1) + D * E - 1 := by
  rcases e1 with e | e
  · have h1 : D * m1 ≤ D * (E * Q1 + E - 1) := Int.mul_le_mul_of_nonneg_left (by omega) (by omega)
    have h2 : D * (E * Q1 + E - 1) = D * (E * Q1) + D * E - D := by grind
    rw [e]; omega
  · have h1 : E * n1 ≤ E * (D * P1 + D - 1) := Int.mul_le_mul_of_nonneg_left (by omega) (by omega)
    have h2 : E * (D * P1 + D - 1) = E * (D * P1) + D * E - E := by grind
    rw [e]; omega
theorem sum_math {dx t D E n1 n2 nv m1 m2 mv P1 P2 Pv Q1 Q2 Qv S : Int} (ht : 0 ≤ t) (ht2 : t < dx) (hD : 0 < D) (hE : 0 < E)
    (ln : dx * nv = (dx - t) * n1 + t * n2) (lm : dx * mv = (dx - t) * m1 + t * m2)
    (p1 : D * P1 ≤ n1 ∧ n1 < D * P1 + D) (p2 : D * P2 ≤ n2 ∧ n2 < D * P2 + D) (pv : D * Pv ≤ nv ∧ nv < D * Pv + D)
    (q1 : E * Q1 ≤ m1 ∧ m1 < E * Q1 + E) (q2 : E * Q2 ≤ m2 ∧ m2 < E * Q2 + E) (qv : E * Qv ≤ mv ∧ mv < E * Qv + E)
    (e1 : n1 = D * P1 ∨ m1 = E * Q1) (e2 : n2 = D * P2 ∨ m2 = E * Q2)
    (hS : dx * S ≤ dx * (P1 + Q1) + t * ((P2 + Q2) - (P1 + Q1)) ∧ dx * (P1 + Q1) + t * ((P2 + Q2) - (P1 + Q1)) < dx * S + dx) : Pv + Qv - 1 ≤ S ∧ S ≤ Pv + Qv + 1 := by
  have hdx : 0 < dx := by omega
  have hDE : 0 < D * E := Int.mul_pos hD hE
  have r1 := ring1 dx t D E P1 P2 Q1 Q2
  have r2 := ring2 dx t D E n1 n2 nv m1 m2 mv ln lm
  generalize hZ : dx * (P1 + Q1) + t * ((P2 + Q2) - (P1 + Q1)) = Z at hS r1
  have u1 : E * (D * P1) + D * (E * Q1) ≤ E * n1 + D * m1 := Int.add_le_add (Int.mul_le_mul_of_nonneg_left p1.1 (by omega)) (Int.mul_le_mul_of_nonneg_left q1.1 (by omega))
  have u2 : E * (D * P2) + D * (E * Q2) ≤ E * n2 + D * m2 := Int.add_le_add (Int.mul_le_mul_of_nonneg_left p2.1 (by omega)) (Int.mul_le_mul_of_nonneg_left q2.1 (by omega))
  have uv : E * (D * Pv) + D * (E * Qv) ≤ E * nv + D * mv := Int.add_le_add (Int.mul_le_mul_of_nonneg_left pv.1 (by omega)) (Int.mul_le_mul_of_nonneg_left qv.1 (by omega))
  have w1 := lossy hD hE p1 q1 e1
  have w2 := lossy hD hE p2 q2 e2
  -- above
  have a1 : D * E * Z ≤ dx * (E * nv + D * mv) := by
    rw [r1, ← r2]
    exact Int.add_le_add (Int.mul_le_mul_of_nonneg_left u1 (by omega)) (Int.mul_le_mul_of_nonneg_left u2 ht)
  have a2 : E * nv + D * mv < D * E * (Pv + Qv + 2) := by
    rw [← ring3 D E (Pv + Qv) Pv Qv rfl]
    have h1 : E * nv < E * (D * Pv + D) := Int.mul_lt_mul_of_pos_left pv.2 hE
    have h2 : D * mv < D * (E * Qv + E) := Int.mul_lt_mul_of_pos_left qv.2 hD
    omega
  have a3 : D * E * Z < D * E * (dx * (Pv + Qv + 2)) := by
    have h1 : dx * (E * nv + D * mv) < dx * (D * E * (Pv + Qv + 2)) := Int.mul_lt_mul_of_pos_left a2 hdx
    have h2 : dx * (D * E * (Pv + Qv + 2)) = D * E * (dx * (Pv + Qv + 2)) := by grind
    omega
  have a4 : Z < dx * (Pv + Qv + 2) := Int.lt_of_mul_lt_mul_left a3 (by omega)
  have a5 : S < Pv + Qv + 2 := Int.lt_of_mul_lt_mul_left (a := dx) (by omega) (by omega)
  -- below
  have b1 : dx * (E * nv + D * mv) ≤ D * E * Z + dx * (D * E - 1) := by
    rw [← r2, r1]
    have h1 := Int.mul_le_mul_of_nonneg_left w1 (show 0 ≤ dx - t by omega)
    have h2 := Int.mul_le_mul_of_nonneg_left w2 ht
    have h3 : (dx - t) * (E * (D * P1) + D * (E * Q1) + D * E - 1) + t * (E * (D * P2) + D * (E * Q2) + D * E - 1) = (dx - t) * (E * (D * P1) + D * (E * Q1)) + t * (E * (D * P2) + D * (E * Q2)) + dx * (D * E - 1) := by grind
    omega
  have b2 : D * E * (dx * (Pv + Qv - 1)) < D * E * Z := by
    have h1 : dx * (E * (D * Pv) + D * (E * Qv)) ≤ dx * (E * nv + D * mv) := Int.mul_le_mul_of_nonneg_left uv (by omega)
    have h2 : dx * (E * (D * Pv) + D * (E * Qv)) = D * E * (dx * (Pv + Qv - 1)) + dx * (D * E) := by grind
    have h3 : dx * (D * E - 1) = dx * (D * E) - dx := by grind
    omega
  have b3 : dx * (Pv + Qv - 1) < Z := Int.lt_of_mul_lt_mul_left b2 (by omega)
  have b4 : Pv + Qv - 1 < S + 1 := by
    have h1 : dx * (S + 1) = dx * S + dx := by grind
    exact Int.lt_of_mul_lt_mul_left (a := dx) (by omega) (by omega)
  omega
end Pv
end Go.Proofs.Ytedoglkonfckkaa
