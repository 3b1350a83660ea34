/-
  The greatest number whose square is not above a number: plain laws. No program stands in it.
-/
import Derived.Test.YtnkbhmonceiocaaDoorQuoP
namespace Go.Proofs.YtnkbhmonceiocaaDoor
open Go Go.RowKit
def isqAux : Nat → Nat → Nat → Nat
  | 0, out, _ => out
  | k + 1, out, X => if (out + 2 ^ k) * (out + 2 ^ k) ≤ X then isqAux k (out + 2 ^ k) X else isqAux k out X
def isq (X : Nat) : Nat := isqAux 64 0 X
theorem isqAux_spec {X : Nat} : ∀ (k out : Nat), out * out ≤ X → X < (out + 2 ^ k) * (out + 2 ^ k) → isqAux k out X * isqAux k out X ≤ X ∧ X < (isqAux k out X + 1) * (isqAux k out X + 1)
  | 0, out, h1, h2 => ⟨h1, h2⟩
  | k + 1, out, h1, h2 => by
    unfold isqAux
    split
    · rename_i h
      refine isqAux_spec k _ h ?_
      rw [Nat.add_assoc, ← Nat.mul_two, ← Nat.pow_succ]; exact h2
    · rename_i h
      exact isqAux_spec k _ h1 (by omega)
theorem isq_spec {X : Nat} (h : X < BB * BB) : isq X * isq X ≤ X ∧ X < (isq X + 1) * (isq X + 1) := isqAux_spec 64 0 (Nat.zero_le _) (by rw [Nat.zero_add]; exact h)
/-- How far the root is found. -/
structure Sq (X k out : Nat) : Prop where
  eq : isqAux k out X = isq X
  mod : out % 2 ^ k = 0
  lt : out + 2 ^ k ≤ BB
theorem Sq.start (X : Nat) : Sq X 64 0 := ⟨rfl, Nat.zero_mod _, by decide⟩
theorem Sq.or {X i out : Nat} (h : Sq X (i + 1) out) : out ||| 2 ^ i = out + 2 ^ i := by
  have h1 := h.mod
  have h2 := Nat.div_add_mod out (2 ^ (i + 1))
  rw [h1, Nat.add_zero] at h2
  have h3 := Nat.two_pow_add_eq_or_of_lt (i := i + 1) (b := 2 ^ i) (Nat.pow_lt_pow_right (by decide) (by omega)) (out / 2 ^ (i + 1))
  rw [h2] at h3
  exact h3.symm
theorem Sq.lt' {X i out : Nat} (h : Sq X (i + 1) out) : out + 2 ^ i < BB := by
  have h1 := h.lt
  have h2 : (2 : Nat) ^ (i + 1) = 2 ^ i + 2 ^ i := by rw [Nat.pow_succ, Nat.mul_two]
  have h3 : 0 < (2 : Nat) ^ i := Nat.pow_pos (by decide)
  rw [h2] at h1
  omega
theorem Sq.yes {X i out x : Nat} (h : Sq X (i + 1) out) (hx : x = out + 2 ^ i) (hle : x * x ≤ X) : Sq X i x := by
  subst hx
  refine ⟨?_, ?_, ?_⟩
  · have := h.eq
    unfold isqAux at this
    rw [if_pos hle] at this
    exact this
  · have h1 := h.mod
    rw [Nat.pow_succ] at h1
    rw [Nat.add_mod_right]
    exact Nat.mod_eq_zero_of_dvd (Nat.dvd_trans ⟨2, rfl⟩ (Nat.dvd_of_mod_eq_zero h1))
  · have h1 := h.lt
    rw [Nat.pow_succ, Nat.mul_two, ← Nat.add_assoc] at h1
    exact h1
theorem Sq.no {X i out x : Nat} (h : Sq X (i + 1) out) (hx : x = out + 2 ^ i) (hle : ¬ x * x ≤ X) : Sq X i out := by
  subst hx
  refine ⟨?_, ?_, ?_⟩
  · have := h.eq
    unfold isqAux at this
    rw [if_neg hle] at this
    exact this
  · have h1 := h.mod
    rw [Nat.pow_succ] at h1
    exact Nat.mod_eq_zero_of_dvd (Nat.dvd_trans ⟨2, rfl⟩ (Nat.dvd_of_mod_eq_zero h1))
  · have h1 := Nat.le_of_lt h.lt'
    exact h1
theorem Sq.fin {X out : Nat} (h : Sq X 0 out) : out = isq X ∧ out < BB := ⟨h.eq, h.lt⟩
theorem isq_unique {X r : Nat} (h : X < BB * BB) (h1 : r * r ≤ X) (h2 : X < (r + 1) * (r + 1)) : isq X = r := by
  obtain ⟨h3, h4⟩ := isq_spec h
  rcases Nat.lt_trichotomy (isq X) r with h5 | h5 | h5
  · have := Nat.mul_le_mul (show isq X + 1 ≤ r from h5) (show isq X + 1 ≤ r from h5)
    omega
  · exact h5
  · have := Nat.mul_le_mul (show r + 1 ≤ isq X from h5) (show r + 1 ≤ isq X from h5)
    omega
end Go.Proofs.YtnkbhmonceiocaaDoor
