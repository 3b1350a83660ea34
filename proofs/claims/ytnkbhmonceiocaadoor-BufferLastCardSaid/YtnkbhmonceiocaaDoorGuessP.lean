/-
  The plain laws behind a digit of a long division that is guessed: no program stands in it.
-/
import Derived.Test.YtnkbhmonceiocaaDoorShortP
namespace Go.Proofs.YtnkbhmonceiocaaDoor
open Go Go.RowKit
/-- What a guess is good for. -/
def GuessOk (u2 u1 u0 v1 v0 q : Nat) : Prop := q < BB ∧ q * (v1 * BB + v0) ≤ (u2 * BB + u1) * BB + u0 ∧ (q = BB - 1 ∨ (u2 * BB + u1) * BB + u0 < (q + 1) * (v1 * BB + v0))
section
variable {b : Nat}
theorem gs_top {N u0 v1 v0 q : Nat} (h0 : u0 < b) (h : N < (q + 1) * v1) : N * b + u0 < (q + 1) * (v1 * b + v0) := by
  have h1 := Nat.mul_le_mul_right b (show N + 1 ≤ (q + 1) * v1 by omega)
  rw [Nat.add_mul, Nat.one_mul] at h1
  rw [Nat.mul_add, ← Nat.mul_assoc]
  omega
theorem gs_le {N u0 v1 v0 q r : Nat} (hq : q * v1 + r = N) (h : q * v0 ≤ r * b + u0) : q * (v1 * b + v0) ≤ N * b + u0 := by
  have e : N * b = q * v1 * b + r * b := by rw [← hq, Nat.add_mul]
  rw [Nat.mul_add, ← Nat.mul_assoc]
  omega
theorem gs_over {N u0 v1 v0 q r : Nat} (hq : q * v1 + r = N) (hqb : q < b) (hv0 : v0 < b) (hr : b ≤ r) : q * (v1 * b + v0) ≤ N * b + u0 := by
  refine gs_le hq ?_
  have h1 := Nat.mul_le_mul (Nat.le_of_lt hqb) (Nat.le_of_lt hv0)
  have h2 := Nat.mul_le_mul_right b hr
  omega
theorem gs_next {N u0 v1 v0 q r : Nat} (hq : q * v1 + r = N) (h : r * b + u0 < q * v0) : N * b + u0 < (q - 1 + 1) * (v1 * b + v0) ∧ 1 ≤ q := by
  have h1 : 1 ≤ q := by
    rcases Nat.eq_zero_or_pos q with e | e
    · rw [e, Nat.zero_mul] at h; omega
    · exact e
  refine ⟨?_, h1⟩
  rw [Nat.sub_add_cancel h1, Nat.mul_add, ← Nat.mul_assoc]
  have e : N * b = q * v1 * b + r * b := by rw [← hq, Nat.add_mul]
  omega
theorem gs_cmp_lt {p r u0 : Nat} (hb : 0 < b) (h : p / b < r) : p ≤ r * b + u0 := by
  have h1 := Nat.div_add_mod p b
  have h2 := Nat.mod_lt p hb
  have h3 := Nat.mul_le_mul_left b (show p / b + 1 ≤ r by omega)
  rw [Nat.mul_add, Nat.mul_one, Nat.mul_comm b r] at h3
  omega
theorem gs_cmp_eq {p r u0 : Nat} (h : p / b = r) : p ≤ r * b + u0 ↔ p % b ≤ u0 := by
  have h1 := Nat.div_add_mod p b
  rw [h, Nat.mul_comm] at h1
  omega
theorem gs_cmp_gt {p r u0 : Nat} (hu : u0 < b) (h : r < p / b) : r * b + u0 < p := by
  have h1 := Nat.div_add_mod p b
  have h3 := Nat.mul_le_mul_left b (show r + 1 ≤ p / b by omega)
  rw [Nat.mul_add, Nat.mul_one, Nat.mul_comm b r] at h3
  omega
end
theorem gs_init {u2 u1 v1 : Nat} (h1 : u1 < BB) (h : u2 < v1) : (u2 * BB + u1) / v1 < BB := by
  refine Nat.div_lt_of_lt_mul ?_
  have := Nat.mul_le_mul_right BB (show u2 + 1 ≤ v1 by omega)
  rw [Nat.add_mul, Nat.one_mul] at this
  omega
theorem gs_init2 (v1 u1 : Nat) : (BB - 1) * v1 + (u1 + v1 + 0) = v1 * BB + u1 := by
  rw [Nat.sub_mul, Nat.one_mul, Nat.mul_comm]
  have := Nat.le_mul_of_pos_right v1 (show 0 < BB by decide)
  omega
theorem gs_init3 {u2 u1 v1 : Nat} (hv : 0 < v1) : (u2 * BB + u1) < ((u2 * BB + u1) / v1 + 1) * v1 := by
  have := Nat.lt_mul_div_succ (u2 * BB + u1) hv
  rw [Nat.mul_comm v1] at this
  exact this
end Go.Proofs.YtnkbhmonceiocaaDoor
