/-
  CirclesSides, the plain law: the two places that two circles tell stand on both sides of the line between, as far from it. No program stands in it.
-/
import Derived.Test.YtnkbhmonceiocaaDoorCircP
namespace Go.Proofs.YtnkbhmonceiocaaDoor
open Go Go.RowKit
theorem sides_law {r c s : Int} (h : meetE 0 0 r c 0 s 1000 = 0) (hc : 0 ≤ c) : (mP1 0 0 r c 0 s).x = (mP2 0 0 r c 0 s).x ∧ 0 ≤ (mP1 0 0 r c 0 s).y ∧ (mP2 0 0 r c 0 s).y ≤ 0 ∧ 0 ≤ (mP1 0 0 r c 0 s).y + (mP2 0 0 r c 0 s).y ∧ (mP1 0 0 r c 0 s).y + (mP2 0 0 r c 0 s).y ≤ 1 ∧
    (mP1 0 0 r c 0 s).y ≤ 4194304 ∧ -4194304 ≤ (mP2 0 0 r c 0 s).y := by
  have hE := h
  unfold meetE at hE
  by_cases hb : mBad 0 0 r c 0 s 1000 = true
  · rw [if_pos hb] at hE; cases hE
  rw [if_neg hb] at hE
  by_cases hd : mD 0 0 c 0 < 1000 * 1000
  · rw [if_pos hd] at hE; cases hE
  rw [if_neg hd] at hE
  by_cases hr : mRest 0 0 r c 0 s < 0
  · rw [if_pos hr] at hE; cases hE
  rw [if_neg hr] at hE
  by_cases ho : (mP1 0 0 r c 0 s).ok = false ∨ (mP2 0 0 r c 0 s).ok = false
  · rw [if_pos ho] at hE; cases hE
  clear hE
  have h1 : (mP1 0 0 r c 0 s).ok = true := by cases hx : (mP1 0 0 r c 0 s).ok; exact absurd (.inl hx) ho; rfl
  have h2 : (mP2 0 0 r c 0 s).ok = true := by cases hx : (mP2 0 0 r c 0 s).ok; exact absurd (.inr hx) ho; rfl
  have hk : 0 ≤ mK 0 0 r c 0 s := by unfold mK; omega
  have hdp : 0 < 2 * mD 0 0 c 0 := by omega
  unfold mP1 mP2 placeF at *
  generalize mK 0 0 r c 0 s = k at *
  generalize mA 0 0 r c 0 s = a at *
  generalize mD 0 0 c 0 = d at *
  simp only [Int.sub_zero, Int.mul_zero, Int.add_zero, Int.zero_add, Int.neg_mul, Bool.and_eq_true, Bool.not_eq_true'] at h1 h2 ⊢
  unfold sideF at *
  simp only [Int.sub_zero, Int.mul_zero, Int.add_zero, Int.zero_add, Int.neg_mul] at h1 h2 ⊢
  have f1 := h1.1.2
  have f2 := h2.1.2
  have g1 := farB_no h1.2
  have g2 := farB_no h2.2
  have e1 : i64of (rndF (k * c) (2 * d)) = rndF (k * c) (2 * d) := by unfold i64of; rw [f1]; rfl
  have e2 : i64of (rndF (-(k * c)) (2 * d)) = rndF (-(k * c)) (2 * d) := by unfold i64of; rw [f2]; rfl
  rw [e1] at g1
  rw [e2] at g2
  rw [e1, e2]
  have h5 := Int.mul_nonneg hk hc
  have h6 := rndF_nonneg hdp h5
  have h7 := rndF_nonpos (n := -(k * c)) hdp (by omega)
  have h8 := rndF_sum (n := k * c) hdp
  exact ⟨trivial, h6, h7, h8.1, h8.2, g1.2.2, g2.2.1⟩
end Go.Proofs.YtnkbhmonceiocaaDoor
