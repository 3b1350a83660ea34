/-
  Plain laws on limbs for the package wide: carries, signs. No program text stands in it.
-/
import Derived.Test.YtnkbhmonceiocaaDoorRun
namespace Go.Proofs.YtnkbhmonceiocaaDoor
open Go Go.RowKit
/-- What goes over behind k limbs. -/
def cr (x y : Int) (c k : Nat) : Nat := (val k (limb x) + val k (limb y) + c) / BB ^ k
theorem cr_zero (x y : Int) (c : Nat) : c = cr x y c 0 := by simp [cr, val]
theorem cr_le (x y : Int) (c : Nat) (hc : c ≤ 1) (k : Nat) : cr x y c k ≤ 1 := by
  have h1 := val_lt (n := k) (g := limb x) fun i _ => limb_lt x i
  have h2 := val_lt (n := k) (g := limb y) fun i _ => limb_lt y i
  unfold cr
  have : (val k (limb x) + val k (limb y) + c) < 2 * BB ^ k := by omega
  have h3 := (Nat.div_lt_iff_lt_mul (pw_pos k)).2 this
  omega
theorem cr_split (x y : Int) (c k : Nat) : val (k + 1) (limb x) + val (k + 1) (limb y) + c = (val k (limb x) + val k (limb y) + c) + (limb x k + limb y k) * BB ^ k := by
  simp only [val, Nat.add_mul]; omega
theorem cr_carry (x y : Int) (c k : Nat) : (((limb x k + limb y k + cr x y c k) / BB : Nat) : Int) = (cr x y c (k + 1) : Nat) := by
  congr 1
  unfold cr
  rw [cr_split, pw_succ, ← Nat.div_div_eq_div_mul, Nat.add_mul_div_right _ _ (pw_pos k)]
  congr 1; omega
theorem sum_mod (x y : Int) (c k : Nat) : ((val k (limb x) + val k (limb y) + c : Nat) : Int) % ((BB ^ k : Nat) : Int) = (x + y + c) % ((BB ^ k : Nat) : Int) := by
  rw [Int.natCast_add, Int.natCast_add, val_limb, val_limb]
  have e1 := Int.emod_add_mul_ediv x ((BB ^ k : Nat) : Int)
  have e2 := Int.emod_add_mul_ediv y ((BB ^ k : Nat) : Int)
  have : x + y + c = (x % ((BB ^ k : Nat) : Int) + y % ((BB ^ k : Nat) : Int) + c) + ((BB ^ k : Nat) : Int) * (x / ((BB ^ k : Nat) : Int) + y / ((BB ^ k : Nat) : Int)) := by rw [Int.mul_add]; omega
  conv => rhs; rw [this]
  rw [Int.add_mul_emod_self_left]
theorem cr_sum (x y : Int) (c k : Nat) : (((limb x k + limb y k + cr x y c k) % BB : Nat) : Int) = (limb (x + y + c) k : Nat) := by
  have hm : (0 : Int) < ((BB ^ k : Nat) : Int) := by have := pw_pos k; omega
  have e1 := Int.emod_add_mul_ediv x ((BB ^ k : Nat) : Int)
  have e2 := Int.emod_add_mul_ediv y ((BB ^ k : Nat) : Int)
  have hx : x + y + c = (x % ((BB ^ k : Nat) : Int) + y % ((BB ^ k : Nat) : Int) + c) + ((BB ^ k : Nat) : Int) * (x / ((BB ^ k : Nat) : Int) + y / ((BB ^ k : Nat) : Int)) := by rw [Int.mul_add]; omega
  have hd : (x + y + c) / ((BB ^ k : Nat) : Int) = (cr x y c k : Nat) + (x / ((BB ^ k : Nat) : Int) + y / ((BB ^ k : Nat) : Int)) := by
    rw [hx, Int.add_mul_ediv_left _ _ (by omega)]
    congr 1
    unfold cr
    rw [Int.natCast_ediv, Int.natCast_add, Int.natCast_add, val_limb, val_limb]
  rw [limb_cast, hd, Int.natCast_emod, Int.natCast_add, Int.natCast_add, limb_cast, limb_cast]
  simp only [show ((BB : Nat) : Int) = 18446744073709551616 from rfl]
  generalize x / ((BB ^ k : Nat) : Int) = p
  generalize y / ((BB ^ k : Nat) : Int) = q
  omega
theorem plus_step {k : Nat} {g : Nat → Nat} (x y : Int) (c : Nat) (hg : ∀ i, i < k → g i = limb (x + y + c) i) : ∀ i, i < k + 1 → upd g k (limb (x + y + c) k) i = limb (x + y + c) i := by
  intro i hi
  by_cases e : i = k
  · subst e; rw [upd_same]
  · rw [upd_ne e]; exact hg i (by omega)
theorem limb15 {x : Int} (hx : inR x) : ((limb x 15 : Int) / 2 ^ 63 == 1) = decide (x < 0) := by
  have hp : (2 : Int) ^ 1023 = 9223372036854775808 * ((BB ^ 15 : Nat) : Int) := by kernel_rfl
  obtain ⟨h1, h2⟩ := hx
  rw [hp] at h1 h2
  have hm : (0 : Int) < ((BB ^ 15 : Nat) : Int) := by have := pw_pos 15; omega
  rw [limb_cast]
  generalize ((BB ^ 15 : Nat) : Int) = m at *
  have e1 := Int.emod_add_mul_ediv x m
  have e2 := Int.emod_nonneg x (b := m) (by omega)
  have e3 := Int.emod_lt_of_pos x hm
  have q1 : -9223372036854775808 ≤ x / m := by
    refine Int.le_ediv_of_mul_le hm ?_
    omega
  have q2 : x / m < 9223372036854775808 := Int.ediv_lt_of_lt_mul hm (by omega)
  have q3 : x < 0 ↔ x / m < 0 := by
    constructor
    · intro h
      exact Int.ediv_lt_of_lt_mul hm (by omega)
    · intro h
      have : m * (x / m) ≤ m * (-1) := Int.mul_le_mul_of_nonneg_left (by omega) (by omega)
      omega
  generalize x / m = q at *
  by_cases h : x < 0
  · have hq := q3.1 h
    have : (q % (BB : Int)) / 2 ^ 63 = 1 := by show (q % 18446744073709551616) / 9223372036854775808 = 1; omega
    rw [this]; simp [h]
  · have hq : ¬ q < 0 := fun e => h (q3.2 e)
    have : (q % (BB : Int)) / 2 ^ 63 = 0 := by show (q % 18446744073709551616) / 9223372036854775808 = 0; omega
    rw [this]; simp [h]

/-! ### Of, inverse, Neg, Sign, Int64 -/
theorem pw_int_pos (i : Nat) : (0 : Int) < ((BB ^ i : Nat) : Int) := by have := pw_pos i; omega
theorem BBi : ((BB : Nat) : Int) = 18446744073709551616 := rfl
theorem pw_ge (i : Nat) (h : 1 ≤ i) : (18446744073709551616 : Int) ≤ ((BB ^ i : Nat) : Int) := by
  have h1 : BB ^ i = BB ^ (i - 1) * BB := by rw [← pw_succ]; congr 1; omega
  have h2 := pw_pos (i - 1)
  have h3 : 1 * BB ≤ BB ^ (i - 1) * BB := Nat.mul_le_mul_right _ h2
  rw [h1]
  rw [Nat.one_mul] at h3
  show ((18446744073709551616 : Nat) : Int) ≤ _
  exact Int.ofNat_le.2 h3
theorem limb_of {v : Int} (hv : -9223372036854775808 ≤ v ∧ v < 9223372036854775808) (i : Nat) (hi : 1 ≤ i) : ((v / 2 ^ 63) % 18446744073709551616 : Int) = (limb v i : Nat) := by
  rw [limb_cast, BBi]
  have hp := pw_ge i hi
  generalize ((BB ^ i : Nat) : Int) = m at *
  have e2 := Int.emod_nonneg v (b := m) (by omega)
  have e3 := Int.emod_lt_of_pos v (b := m) (by omega)
  have e1 := Int.emod_add_mul_ediv v m
  show v / 9223372036854775808 % 18446744073709551616 = _
  by_cases h : v < 0
  · have : v / m = -1 := by
      have h1 : v / m < 0 := Int.ediv_lt_of_lt_mul (by omega) (by omega)
      have h2 : -1 ≤ v / m := Int.le_ediv_of_mul_le (by omega) (by omega)
      omega
    rw [this]; omega
  · have : v / m = 0 := Int.ediv_eq_zero_of_lt (by omega) (by omega)
    rw [this]; omega
theorem limb0 (x : Int) : (limb x 0 : Int) = x % 18446744073709551616 := by
  rw [limb_cast]; simp
theorem limb_inv (x : Int) (i : Nat) : limb (-x - 1) i = BB - 1 - limb x i := by
  have hp := pw_int_pos i
  have h1 := limb_cast x i
  have h2 := limb_cast (-x - 1) i
  have h3 := limb_lt x i
  rw [BBi] at h1 h2
  generalize ((BB ^ i : Nat) : Int) = m at *
  have e1 := Int.emod_add_mul_ediv x m
  have e2 := Int.emod_nonneg x (b := m) (by omega)
  have e3 := Int.emod_lt_of_pos x hp
  have hd : (-x - 1) / m = - (x / m) - 1 := by
    have : -x - 1 = (m - 1 - x % m) + m * (- (x / m) - 1) := by
      rw [Int.mul_sub, Int.mul_neg]; omega
    rw [this, Int.add_mul_ediv_left _ _ (by omega), Int.ediv_eq_zero_of_lt (by omega) (by omega)]; omega
  rw [hd] at h2
  generalize x / m = q at *
  have h4 : BB = 18446744073709551616 := rfl
  omega
theorem Wd_zero : AF 16 (fun _ => 0) = Wd 0 := AF_congr fun i _ => by unfold limb; simp
theorem neg_eq (x : Int) : Wd (0 + (-x - 1) + ((1 : Nat) : Int)) = Wd (-x) := by congr 1; omega
theorem M16_half : M16 = 2 * 2 ^ 1023 := by kernel_rfl
theorem p1023 : (2 : Int) ^ 1023 = 9223372036854775808 * ((BB ^ 15 : Nat) : Int) := by kernel_rfl
theorem p1023_ge : (9223372036854775808 : Int) ≤ 2 ^ 1023 := by
  rw [p1023]
  have := pw_ge 15 (by omega)
  generalize ((BB ^ 15 : Nat) : Int) = m at *
  omega
theorem inR_64 {x : Int} (h : -9223372036854775808 ≤ x ∧ x < 9223372036854775808) : inR x := by
  have := p1023_ge
  unfold inR
  generalize (2 : Int) ^ 1023 = m at *
  omega
theorem inR_mod {x y : Int} (hx : inR x) (hy : inR y) (h : x % M16 = y % M16) : x = y := by
  unfold inR at hx hy
  rw [M16_half] at h
  generalize (2 : Int) ^ 1023 = m at *
  have e1 := Int.emod_add_mul_ediv x (2 * m)
  have e2 := Int.emod_add_mul_ediv y (2 * m)
  have hd : x - y = 2 * m * (x / (2 * m) - y / (2 * m)) := by rw [Int.mul_sub]; omega
  have h1 : -(2 * m) < x - y := by omega
  have h2 : x - y < 2 * m := by omega
  rw [hd] at h1 h2
  have h3 : x / (2 * m) - y / (2 * m) = 0 := by
    generalize x / (2 * m) - y / (2 * m) = q at *
    have hm : 0 < 2 * m := by omega
    have a1 : -1 < q := by
      rcases Int.lt_or_le (-1) q with h | h
      · exact h
      · have := Int.mul_le_mul_of_nonneg_left h (by omega : 0 ≤ 2 * m); omega
    have a2 : q < 1 := by
      rcases Int.lt_or_le q 1 with h | h
      · exact h
      · have := Int.mul_le_mul_of_nonneg_left h (by omega : 0 ≤ 2 * m); omega
    omega
  rw [h3] at hd
  omega
theorem eqRow_Wd {x y : Int} (hx : inR x) (hy : inR y) : eqRow 16 (limb x) (limb y) = decide (x = y) := by
  rw [Bool.eq_iff_iff, eqRow_iff, decide_eq_true_eq]
  constructor
  · intro h
    have h1 := val_congr h
    have h2 := val_limb 16 x
    have h3 := val_limb 16 y
    exact inR_mod hx hy (by show x % ((BB ^ 16 : Nat) : Int) = y % ((BB ^ 16 : Nat) : Int); rw [← h2, ← h3, h1])
  · intro h i _; rw [h]
def fit64 (x : Int) : Bool := decide (-9223372036854775808 ≤ x ∧ x < 9223372036854775808)
def i64of (x : Int) : Int := bif fit64 x then x else 0
/-- The low limb as a number with a sign. -/
def low64 (x : Int) : Int := IntKind.i64.wrap (limb x 0 : Nat)
theorem low64_in (x : Int) : -9223372036854775808 ≤ low64 x ∧ low64 x < 9223372036854775808 := by
  unfold low64; rw [IntKind.wrap_i64]; omega
theorem low64_fit (x : Int) (hx : inR x) : decide (low64 x = x) = fit64 x := by
  unfold fit64
  rw [Bool.eq_iff_iff, decide_eq_true_eq, decide_eq_true_eq]
  constructor
  · intro h; rw [← h]; exact low64_in x
  · intro h
    unfold low64
    rw [limb0, IntKind.wrap_i64]
    omega
theorem low64_eq (x : Int) (h : fit64 x = true) : low64 x = x := by
  unfold fit64 at h
  have h := of_decide_eq_true h
  unfold low64
  rw [limb0, IntKind.wrap_i64]
  omega
theorem upd_step {k : Nat} {g : Nat → Nat} {v : Int} (hv : -9223372036854775808 ≤ v ∧ v < 9223372036854775808) (hg : ∀ i, 1 ≤ i → i < k → g i = limb v i) : ∀ i, 1 ≤ i → i < k + 1 → upd g k (v / 2 ^ 63 % 18446744073709551616).toNat i = limb v i := by
  intro i h1 hi
  by_cases e : i = k
  · subst e; rw [upd_same, limb_of hv i h1]; simp
  · rw [upd_ne e]; exact hg i h1 (by omega)
theorem upd0 {g : Nat → Nat} {v : Int} (hg : ∀ i, 1 ≤ i → i < 16 → g i = limb v i) : ∀ i, i < 16 → upd g 0 (limb v 0) i = limb v i := by
  intro i hi
  by_cases e : i = 0
  · subst e; rw [upd_same]
  · rw [upd_ne e]; exact hg i (by omega) hi
theorem updS {k : Nat} {g f : Nat → Nat} (hg : ∀ i, i < k → g i = f i) : ∀ i, i < k + 1 → upd g k (f k) i = f i := by
  intro i hi
  by_cases e : i = k
  · subst e; rw [upd_same]
  · rw [upd_ne e]; exact hg i (by omega)
theorem toNat_mod (z : Int) : z % 18446744073709551616 = ((z % 18446744073709551616).toNat : Nat) := by omega
theorem eqRow_zero {x : Int} (hx : inR x) : eqRow 16 (limb x) (fun _ => 0) = decide (x = 0) := by
  rw [← eqRow_Wd hx (inR_64 (by omega))]
  rw [Bool.eq_iff_iff, eqRow_iff, eqRow_iff]
  constructor <;> intro h i hi <;> rw [h i hi] <;> unfold limb <;> simp
theorem wd_abs {x y : Int} (h : y = x.natAbs) : (Value.agg (Wd y)) = .agg (Wd x.natAbs) := by rw [h]

/-! ### Add, Sub -/
/-- The number in range of the same limbs. -/
def nrm (z : Int) : Int := (z + 2 ^ 1023) % M16 - 2 ^ 1023
theorem nrm_in (z : Int) : inR (nrm z) := by
  unfold inR nrm
  rw [M16_half]
  have := p1023_ge
  generalize (2 : Int) ^ 1023 = m at *
  have e2 := Int.emod_nonneg (z + m) (b := 2 * m) (by omega)
  have e3 := Int.emod_lt_of_pos (z + m) (b := 2 * m) (by omega)
  omega
theorem Wd_nrm (z : Int) : Wd (nrm z) = Wd z := by
  refine Wd_mod ?_
  unfold nrm
  rw [Int.sub_emod, Int.emod_emod, ← Int.sub_emod]
  congr 1; omega
theorem nrm_eq {z : Int} (h : inR z) : nrm z = z := by
  unfold inR at h
  unfold nrm
  rw [M16_half]
  generalize (2 : Int) ^ 1023 = m at *
  rw [Int.emod_eq_of_lt (by omega) (by omega)]; omega
theorem nrm_hi {z : Int} (h1 : 2 ^ 1023 ≤ z) (h2 : z < 2 ^ 1023 + 2 ^ 1023) : nrm z = z - M16 := by
  unfold nrm
  rw [M16_half]
  generalize (2 : Int) ^ 1023 = m at *
  rw [← Int.sub_emod_right, Int.emod_eq_of_lt (by omega) (by omega)]; omega
theorem nrm_lo {z : Int} (h1 : z < -(2 ^ 1023)) (h2 : -(2 ^ 1023) - 2 ^ 1023 ≤ z) : nrm z = z + M16 := by
  unfold nrm
  rw [M16_half]
  generalize (2 : Int) ^ 1023 = m at *
  rw [← Int.add_emod_right, Int.emod_eq_of_lt (by omega) (by omega)]; omega
instance (z : Int) : Decidable (inR z) := inferInstanceAs (Decidable (_ ∧ _))
def inRb (z : Int) : Bool := decide (inR z)
theorem inRb_true {z : Int} (h : inR z) : inRb z = true := decide_eq_true h
theorem inRb_false {z : Int} (h : ¬ inR z) : inRb z = false := decide_eq_false h
/-- What a sum or difference of two numbers comes to. -/
theorem sum_cases {x y : Int} (hx : inR x) (hy : inR y) :
    (inR (x + y) ∧ nrm (x + y) = x + y) ∨ (¬ inR (x + y) ∧ ((0 ≤ x ∧ 0 ≤ y ∧ nrm (x + y) < 0) ∨ (x < 0 ∧ y < 0 ∧ 0 ≤ nrm (x + y)))) := by
  by_cases h : inR (x + y)
  · exact .inl ⟨h, nrm_eq h⟩
  · refine .inr ⟨h, ?_⟩
    have h0 := p1023_ge
    by_cases h1 : 2 ^ 1023 ≤ x + y
    · have h2 := nrm_hi (z := x + y) h1 (by unfold inR at hx hy; generalize (2 : Int) ^ 1023 = m at *; omega)
      rw [M16_half] at h2
      unfold inR at hx hy h
      generalize (2 : Int) ^ 1023 = m at *
      left; omega
    · have h2 := nrm_lo (z := x + y) (by unfold inR at h; generalize (2 : Int) ^ 1023 = m at *; omega) (by unfold inR at hx hy; generalize (2 : Int) ^ 1023 = m at *; omega)
      rw [M16_half] at h2
      unfold inR at hx hy h
      generalize (2 : Int) ^ 1023 = m at *
      right; omega
theorem agg_wd {x y : Int} (h : Wd x = Wd y) : Value.agg (Wd x) = .agg (Wd y) := by rw [h]
theorem add0 (x y : Int) : Wd (x + y + ((0 : Nat) : Int)) = Wd (nrm (x + y)) := by rw [Wd_nrm]; congr 1; omega
theorem sub1 (x y : Int) : Wd (x + (-y - 1) + ((1 : Nat) : Int)) = Wd (nrm (x - y)) := by rw [Wd_nrm]; congr 1; omega
theorem add_no {x y : Int} (hx : inR x) (hy : inR y) (hs : (decide (x < 0) == decide (y < 0)) = true) (h : (decide (nrm (x + y) < 0) != decide (x < 0)) = true) :
    Value.tuple #[.agg (Wd 0), .bool false] = .tuple #[.agg (Wd (bif inRb (x + y) then x + y else 0)), .bool (inRb (x + y))] := by
  have hn : ¬ inR (x + y) := by
    intro hi
    rw [nrm_eq hi] at h
    have h1 : decide (x < 0) = decide (y < 0) := by simpa using hs
    by_cases hx0 : x < 0 <;> by_cases hy0 : y < 0 <;> by_cases hz : x + y < 0 <;> simp [hx0, hy0, hz] at h h1 <;> omega
  rw [inRb_false hn]; rfl
theorem add_yes {x y : Int} (hx : inR x) (hy : inR y) (h : (decide (x < 0) == decide (y < 0)) = false ∨ (decide (nrm (x + y) < 0) != decide (x < 0)) = false) :
    Value.tuple #[.agg (Wd (nrm (x + y))), .bool true] = .tuple #[.agg (Wd (bif inRb (x + y) then x + y else 0)), .bool (inRb (x + y))] := by
  rcases sum_cases hx hy with ⟨h1, h2⟩ | ⟨h1, h2⟩
  · rw [inRb_true h1, h2]; rfl
  · exfalso
    rcases h2 with ⟨a, b, c⟩ | ⟨a, b, c⟩
    · have : ¬ x < 0 := by omega
      have h4 : ¬ y < 0 := by omega
      simp [this, h4, c] at h
    · have : ¬ nrm (x + y) < 0 := by omega
      simp [this, a, b] at h
theorem sub_no {x y : Int} (hx : inR x) (hy : inR y) (hs : (decide (x < 0) != decide (y < 0)) = true) (h : (decide (nrm (x - y) < 0) != decide (x < 0)) = true) :
    Value.tuple #[.agg (Wd 0), .bool false] = .tuple #[.agg (Wd (bif inRb (x - y) then x - y else 0)), .bool (inRb (x - y))] := by
  have hn : ¬ inR (x - y) := by
    intro hi
    rw [nrm_eq hi] at h
    by_cases hx0 : x < 0 <;> by_cases hy0 : y < 0 <;> by_cases hz : x - y < 0 <;> simp [hx0, hy0, hz] at h hs <;> omega
  rw [inRb_false hn]; rfl
theorem sub_yes {x y : Int} (hx : inR x) (hy : inR y) (h : (decide (x < 0) != decide (y < 0)) = false ∨ (decide (nrm (x - y) < 0) != decide (x < 0)) = false) :
    Value.tuple #[.agg (Wd (nrm (x - y))), .bool true] = .tuple #[.agg (Wd (bif inRb (x - y) then x - y else 0)), .bool (inRb (x - y))] := by
  by_cases h1 : inR (x - y)
  · rw [inRb_true h1, nrm_eq h1]; rfl
  · exfalso
    have h0 := p1023_ge
    by_cases h3 : 2 ^ 1023 ≤ x - y
    · have h2 := nrm_hi (z := x - y) h3 (by unfold inR at hx hy; generalize (2 : Int) ^ 1023 = m at *; omega)
      rw [M16_half] at h2
      unfold inR at hx hy
      generalize (2 : Int) ^ 1023 = m at *
      have a : ¬ x < 0 := by omega
      have b : y < 0 := by omega
      have c : nrm (x - y) < 0 := by omega
      simp [a, b, c] at h
    · have h2 := nrm_lo (z := x - y) (by unfold inR at h1; generalize (2 : Int) ^ 1023 = m at *; omega) (by unfold inR at hx hy; generalize (2 : Int) ^ 1023 = m at *; omega)
      rw [M16_half] at h2
      unfold inR at hx hy h1
      generalize (2 : Int) ^ 1023 = m at *
      have a : x < 0 := by omega
      have b : ¬ y < 0 := by omega
      have c : ¬ nrm (x - y) < 0 := by omega
      simp [a, b, c] at h

/-! ### count, signed, Mul -/
/-- How many limbs there are, of n, none of noughts behind. -/
def lcnt : Nat → (Nat → Nat) → Nat
  | 0, _ => 0
  | n + 1, g => if g n = 0 then lcnt n g else n + 1
theorem lcnt_le (n : Nat) (g : Nat → Nat) : lcnt n g ≤ n := by
  induction n with
  | zero => exact Nat.le_refl _
  | succ n ih => unfold lcnt; split <;> omega
theorem lcnt_congr {n : Nat} {g h : Nat → Nat} (e : ∀ i, i < n → g i = h i) : lcnt n g = lcnt n h := by
  induction n with
  | zero => rfl
  | succ n ih => unfold lcnt; rw [e n (by omega), ih fun i hi => e i (by omega)]
theorem val_lcnt (n : Nat) (g : Nat → Nat) : val (lcnt n g) g = val n g := by
  induction n with
  | zero => rfl
  | succ n ih =>
    unfold lcnt
    split
    · rename_i h; rw [ih]; simp only [val]; rw [h]; simp
    · rfl
theorem lcnt_top {n : Nat} {g : Nat → Nat} (h : lcnt n g ≠ 0) : g (lcnt n g - 1) ≠ 0 := by
  induction n with
  | zero => exact absurd rfl h
  | succ n ih =>
    unfold lcnt at h ⊢
    split
    · rename_i h0; rw [if_pos h0] at h; exact ih h
    · rename_i h0; simpa using h0
theorem lcnt_zero {n : Nat} {g : Nat → Nat} (h : lcnt n g = 0) : val n g = 0 := by rw [← val_lcnt, h]; rfl
theorem lcnt_pos {n : Nat} {g : Nat → Nat} (h : lcnt n g ≠ 0) : BB ^ (lcnt n g - 1) ≤ val n g := by
  rw [← val_lcnt]
  have h1 := lcnt_top h
  obtain ⟨k, hk⟩ : ∃ k, lcnt n g = k + 1 := ⟨lcnt n g - 1, by omega⟩
  rw [hk] at h1 ⊢
  simp only [Nat.add_sub_cancel] at h1 ⊢
  simp only [val]
  have : 1 * BB ^ k ≤ g k * BB ^ k := Nat.mul_le_mul_right _ (by omega)
  omega
theorem natAbs_lt {x : Int} (hx : inR x) : x.natAbs < BB ^ 16 := by
  have h := M16_half
  unfold inR at hx
  unfold M16 at h
  generalize (2 : Int) ^ 1023 = m at *
  omega
theorem val_abs {x : Int} (hx : inR x) : val 16 (limb (x.natAbs : Int)) = x.natAbs := by
  have h1 := val_limb 16 (x.natAbs : Int)
  have h2 := natAbs_lt hx
  rw [Int.emod_eq_of_lt (by omega) (by omega)] at h1
  omega
theorem lcnt_down {k : Nat} {g : Nat → Nat} (h : ((g (k - 1) : Nat) : Int) = 0) (hk : 0 < k) : lcnt k g = lcnt (k - 1) g := by
  obtain ⟨j, rfl⟩ : ∃ j, k = j + 1 := ⟨k - 1, by omega⟩
  simp only [Nat.add_sub_cancel] at h ⊢
  conv => lhs; unfold lcnt
  rw [if_pos (by omega)]
theorem lcnt_here {k : Nat} {g : Nat → Nat} (hk : 0 < k) (h : ((g (k - 1) : Nat) : Int) ≠ 0) : lcnt k g = k := by
  obtain ⟨j, rfl⟩ : ∃ j, k = j + 1 := ⟨k - 1, by omega⟩
  simp only [Nat.add_sub_cancel] at h
  unfold lcnt
  rw [if_neg (by omega)]
theorem nrm_pos {x : Nat} (hx : x < BB ^ 16) : (inR (x : Int) ∧ nrm (x : Int) = x) ∨ (¬ inR (x : Int) ∧ nrm (x : Int) < 0) := by
  by_cases h : inR (x : Int)
  · exact .inl ⟨h, nrm_eq h⟩
  · have h2 : (x : Int) < M16 := by unfold M16; omega
    rw [M16_half] at h2
    have := nrm_hi (z := (x : Int)) (by unfold inR at h; have := p1023_ge; generalize (2 : Int) ^ 1023 = m at *; omega) (by generalize (2 : Int) ^ 1023 = m at *; omega)
    rw [M16_half] at this
    exact .inr ⟨h, by generalize (2 : Int) ^ 1023 = m at *; omega⟩
theorem nrm_neg {x : Nat} (hx : x < BB ^ 16) : (inR (-(x : Int)) ∧ nrm (-(x : Int)) = -x) ∨ (¬ inR (-(x : Int)) ∧ 0 < nrm (-(x : Int))) := by
  by_cases h : inR (-(x : Int))
  · exact .inl ⟨h, nrm_eq h⟩
  · have h2 : (x : Int) < M16 := by unfold M16; omega
    rw [M16_half] at h2
    have := nrm_lo (z := -(x : Int)) (by unfold inR at h; have := p1023_ge; generalize (2 : Int) ^ 1023 = m at *; omega) (by generalize (2 : Int) ^ 1023 = m at *; omega)
    rw [M16_half] at this
    exact .inr ⟨h, by generalize (2 : Int) ^ 1023 = m at *; omega⟩
theorem signed_post_t {x : Nat} (hx : x < BB ^ 16) (h : decide (nrm (-(x : Int)) < 0) = true) : Value.tuple #[.agg (Wd (nrm (-(x : Int)))), .bool true] = .tuple #[.agg (Wd (-(x : Int))), .bool (inRb (-(x : Int)))] := by
  have h := of_decide_eq_true h
  rcases nrm_neg hx with ⟨h1, h2⟩ | ⟨h1, h2⟩
  · rw [Wd_nrm, inRb_true h1]
  · omega
theorem signed_post_f {x : Nat} (hx : x < BB ^ 16) (h : decide (nrm (-(x : Int)) < 0) = false) : Value.tuple #[.agg (Wd (nrm (-(x : Int)))), .bool (decide (nrm (-(x : Int)) = 0))] = .tuple #[.agg (Wd (-(x : Int))), .bool (inRb (-(x : Int)))] := by
  have h := of_decide_eq_false h
  rw [Wd_nrm]
  rcases nrm_neg hx with ⟨h1, h2⟩ | ⟨h1, h2⟩
  · rw [inRb_true h1, decide_eq_true (by omega)]
  · rw [inRb_false h1, decide_eq_false (by omega)]
theorem signed_post {x : Nat} (hx : x < BB ^ 16) : Value.tuple #[.agg (Wd (nrm (x : Int))), .bool (!(decide (nrm (x : Int) < 0)))] = .tuple #[.agg (Wd (x : Int)), .bool (inRb (x : Int))] := by
  rw [Wd_nrm]
  rcases nrm_pos hx with ⟨h1, h2⟩ | ⟨h1, h2⟩
  · rw [inRb_true h1, decide_eq_false (by omega)]; rfl
  · rw [inRb_false h1, decide_eq_true h2]; rfl
end Go.Proofs.YtnkbhmonceiocaaDoor
