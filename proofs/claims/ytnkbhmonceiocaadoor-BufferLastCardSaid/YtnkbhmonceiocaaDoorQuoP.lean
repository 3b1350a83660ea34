/-
  The plain laws behind quotients with a sign, and the nearest whole number: no program stands in it.
-/
import Derived.Test.YtnkbhmonceiocaaDoorLongP
namespace Go.Proofs.YtnkbhmonceiocaaDoor
open Go Go.RowKit
theorem tdiv_sign (x y : Int) : (bif (decide (x < 0) != decide (y < 0)) then -((x.natAbs / y.natAbs : Nat) : Int) else ((x.natAbs / y.natAbs : Nat) : Int)) = x.tdiv y := by
  rcases Int.lt_or_le x 0 with hx | hx <;> rcases Int.lt_or_le y 0 with hy | hy
  · obtain ⟨a, rfl⟩ : ∃ a : Nat, x = -(a : Int) := ⟨x.natAbs, by omega⟩
    obtain ⟨b, rfl⟩ : ∃ b : Nat, y = -(b : Int) := ⟨y.natAbs, by omega⟩
    rw [decide_eq_true hx, decide_eq_true hy, Int.neg_tdiv, Int.tdiv_neg, Int.natAbs_neg, Int.natAbs_neg, Int.natAbs_natCast, Int.natAbs_natCast, Int.neg_neg]
    rfl
  · obtain ⟨a, rfl⟩ : ∃ a : Nat, x = -(a : Int) := ⟨x.natAbs, by omega⟩
    obtain ⟨b, rfl⟩ : ∃ b : Nat, y = (b : Int) := ⟨y.natAbs, by omega⟩
    rw [decide_eq_true hx, decide_eq_false (by omega), Int.neg_tdiv, Int.natAbs_neg, Int.natAbs_natCast, Int.natAbs_natCast]
    rfl
  · obtain ⟨a, rfl⟩ : ∃ a : Nat, x = (a : Int) := ⟨x.natAbs, by omega⟩
    obtain ⟨b, rfl⟩ : ∃ b : Nat, y = -(b : Int) := ⟨y.natAbs, by omega⟩
    rw [decide_eq_false (by omega), decide_eq_true hy, Int.tdiv_neg, Int.natAbs_neg, Int.natAbs_natCast, Int.natAbs_natCast]
    rfl
  · obtain ⟨a, rfl⟩ : ∃ a : Nat, x = (a : Int) := ⟨x.natAbs, by omega⟩
    obtain ⟨b, rfl⟩ : ∃ b : Nat, y = (b : Int) := ⟨y.natAbs, by omega⟩
    rw [decide_eq_false (by omega), decide_eq_false (by omega), Int.natAbs_natCast, Int.natAbs_natCast]
    rfl
theorem tmod_neg' {x : Int} (y : Int) (hx : x < 0) : -((x.natAbs % y.natAbs : Nat) : Int) = x.tmod y := by
  obtain ⟨a, rfl⟩ : ∃ a : Nat, x = -(a : Int) := ⟨x.natAbs, by omega⟩
  rw [Int.neg_tmod, Int.natAbs_neg, Int.natAbs_natCast]
  rcases Int.lt_or_le y 0 with hy | hy
  · obtain ⟨b, rfl⟩ : ∃ b : Nat, y = -(b : Int) := ⟨y.natAbs, by omega⟩
    rw [Int.tmod_neg, Int.natAbs_neg, Int.natAbs_natCast]; rfl
  · obtain ⟨b, rfl⟩ : ∃ b : Nat, y = (b : Int) := ⟨y.natAbs, by omega⟩
    rw [Int.natAbs_natCast]; rfl
theorem tmod_pos' {x : Int} (y : Int) (hx : ¬ x < 0) : ((x.natAbs % y.natAbs : Nat) : Int) = x.tmod y := by
  obtain ⟨a, rfl⟩ : ∃ a : Nat, x = (a : Int) := ⟨x.natAbs, by omega⟩
  rw [Int.natAbs_natCast]
  rcases Int.lt_or_le y 0 with hy | hy
  · obtain ⟨b, rfl⟩ : ∃ b : Nat, y = -(b : Int) := ⟨y.natAbs, by omega⟩
    rw [Int.tmod_neg, Int.natAbs_neg, Int.natAbs_natCast]; rfl
  · obtain ⟨b, rfl⟩ : ∃ b : Nat, y = (b : Int) := ⟨y.natAbs, by omega⟩
    rw [Int.natAbs_natCast]; rfl
theorem natAbs_pos' {y : Int} (h : y ≠ 0) : 0 < y.natAbs := by omega
/-- The floor. -/
theorem floor_neg {a b : Int} (hb : 0 < b) (h : a.tmod b < 0) : a.tdiv b - 1 = a / b := by
  have h1 := Int.tmod_add_mul_tdiv a b
  have h2 := Int.emod_add_mul_ediv a b
  have h3 := Int.emod_nonneg a (b := b) (by omega)
  have h4 := Int.emod_lt_of_pos a hb
  have h5 : -b < a.tmod b := by
    have := Int.tmod_lt_of_pos (-a) hb
    rw [Int.neg_tmod] at this
    omega
  have h6 : b * (a.tdiv b - 1 - a / b) = a % b - b - a.tmod b := by rw [Int.mul_sub, Int.mul_sub, Int.mul_one]; omega
  rcases Int.lt_trichotomy (a.tdiv b - 1 - a / b) 0 with h | h | h
  · have := Int.mul_le_mul_of_nonneg_left (show a.tdiv b - 1 - a / b ≤ -1 by omega) (show 0 ≤ b by omega)
    rw [h6] at this
    omega
  · omega
  · have := Int.mul_le_mul_of_nonneg_left (show 1 ≤ a.tdiv b - 1 - a / b by omega) (show 0 ≤ b by omega)
    rw [h6] at this
    omega
theorem floor_pos {a b : Int} (hb : 0 < b) (h : ¬ a.tmod b < 0) : a.tdiv b = a / b := by
  have h1 := Int.tmod_add_mul_tdiv a b
  have h2 := Int.emod_add_mul_ediv a b
  have h3 := Int.emod_nonneg a (b := b) (by omega)
  have h4 := Int.emod_lt_of_pos a hb
  have h5 : a.tmod b < b := Int.tmod_lt_of_pos a hb
  have h6 : b * (a.tdiv b - a / b) = a % b - a.tmod b := by rw [Int.mul_sub]; omega
  rcases Int.lt_trichotomy (a.tdiv b - a / b) 0 with h | h | h
  · have := Int.mul_le_mul_of_nonneg_left (show a.tdiv b - a / b ≤ -1 by omega) (show 0 ≤ b by omega)
    rw [h6] at this
    omega
  · omega
  · have := Int.mul_le_mul_of_nonneg_left (show 1 ≤ a.tdiv b - a / b by omega) (show 0 ≤ b by omega)
    rw [h6] at this
    omega
theorem tdiv_abs (x y : Int) : (x.tdiv y).natAbs ≤ x.natAbs := by
  rw [← tdiv_sign]
  have h := Nat.div_le_self x.natAbs y.natAbs
  generalize x.natAbs / y.natAbs = q at *
  cases (decide (x < 0) != decide (y < 0)) <;> simp only [cond_true, cond_false] <;> omega
theorem tmod_in {x y : Int} (hx : inR x) : inR (x.tmod y) := by
  obtain ⟨h1, h2⟩ := hx
  by_cases h : x < 0
  · rw [← tmod_neg' y h]
    have := Nat.mod_le x.natAbs y.natAbs
    generalize x.natAbs % y.natAbs = r at *
    unfold inR
    generalize (2 : Int) ^ 1023 = z at *
    constructor <;> omega
  · rw [← tmod_pos' y h]
    have := Nat.mod_le x.natAbs y.natAbs
    generalize x.natAbs % y.natAbs = r at *
    unfold inR
    generalize (2 : Int) ^ 1023 = z at *
    constructor <;> omega
theorem tdiv_in {x y : Int} (hx : inR x) (hy : 0 < y) : inR (x.tdiv y) := by
  obtain ⟨h1, h2⟩ := hx
  have h := tdiv_abs x y
  by_cases hx : x < 0
  · have h3 : x.tdiv y ≤ 0 := by
      rw [← tdiv_sign, decide_eq_true hx, decide_eq_false (show ¬ y < 0 by omega)]
      simp only [Bool.bne_false, cond_true]
      generalize x.natAbs / y.natAbs = q
      omega
    unfold inR
    generalize (2 : Int) ^ 1023 = z at *
    constructor <;> omega
  · unfold inR
    generalize (2 : Int) ^ 1023 = z at *
    constructor <;> omega
theorem ediv_in {x y : Int} (hx : inR x) (hy : 0 < y) : inR (x / y) := by
  obtain ⟨h1, h2⟩ := hx
  have h3 : x / y ≤ x ∨ x / y ≤ 0 := by
    by_cases h : x < 0
    · right; exact Int.ediv_le_of_le_mul hy (by omega)
    · left; exact Int.ediv_le_self _ (by omega)
  have h4 : x ≤ x / y ∨ 0 ≤ x / y := by
    by_cases h : x < 0
    · left
      rw [Int.le_ediv_iff_mul_le hy]
      have := Int.mul_le_mul_of_nonneg_left (show (1 : Int) ≤ y by omega) (show 0 ≤ -x by omega)
      rw [Int.neg_mul, Int.neg_mul] at this
      omega
    · right; exact Int.ediv_nonneg (by omega) (by omega)
  have h5 := p1023_ge
  unfold inR
  generalize (2 : Int) ^ 1023 = z at *
  constructor <;> omega
end Go.Proofs.YtnkbhmonceiocaaDoor
