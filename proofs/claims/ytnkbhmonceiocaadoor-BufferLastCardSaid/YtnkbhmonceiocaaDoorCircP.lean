/-
  The plain laws behind two circles that meet: no program stands in it.
-/
import Derived.Test.YtnkbhmonceiocaaDoorRootP
namespace Go.Proofs.YtnkbhmonceiocaaDoor
open Go Go.RowKit
theorem pow_gt (k n : Nat) (h : k < n) : 2 ^ k < 2 ^ n := Nat.pow_lt_pow_right (by decide) h
theorem inR_of_lt {x : Int} {n : Nat} (hn : n = 1023) (h : x.natAbs < 2 ^ n) : inR x := by
  have h2 : (2 : Int) ^ n = ((2 ^ n : Nat) : Int) := by rw [Int.natCast_pow]; rfl
  unfold inR
  rw [← hn, h2]
  clear h2
  generalize (2 ^ n : Nat) = z at *
  omega
theorem inR_pow {x : Int} {k : Nat} (hk : k < 1023) (h : x.natAbs ≤ 2 ^ k) : inR x := by
  obtain ⟨n, hn⟩ : ∃ n, n = 1023 := ⟨_, rfl⟩
  exact inR_of_lt hn (Nat.lt_of_le_of_lt h (pow_gt k n (by omega)))
theorem inR_abs {x : Int} (h : x.natAbs ≤ 2 ^ 200) : inR x := inR_pow (by decide) h
theorem mul_bd {a b : Int} {A B : Nat} (ha : a.natAbs ≤ A) (hb : b.natAbs ≤ B) : (a * b).natAbs ≤ A * B := by rw [Int.natAbs_mul]; exact Nat.mul_le_mul ha hb
/-- The whole number that is nearest to a fraction. -/
def rndF (n e : Int) : Int := (n + n + e) / (e + e)
def sideF (f a b c d e : Int) : Int := rndF (a * b + c * d) (2 * e) + f
theorem rndF_bd {n e : Int} (he : 0 < e) : (rndF n e).natAbs ≤ n.natAbs + 1 := by
  unfold rndF
  have h1 : (n + n + e) / (e + e) ≤ n.natAbs + 1 := by
    refine Int.ediv_le_of_le_mul (by omega) ?_
    have h2 : (1 : Int) * (n.natAbs + 1) ≤ e * (n.natAbs + 1) := Int.mul_le_mul_of_nonneg_right (by omega) (by omega)
    have h3 : ((n.natAbs : Int) + 1) * (e + e) = e * (n.natAbs + 1) + e * (n.natAbs + 1) := by rw [Int.mul_add, Int.mul_comm e]
    have h4 : e ≤ e * (n.natAbs + 1) := by rw [Int.mul_add, Int.mul_one]; have := Int.mul_nonneg (show 0 ≤ e by omega) (show (0 : Int) ≤ n.natAbs by omega); omega
    have h5 : (n.natAbs : Int) * 1 ≤ n.natAbs * e := Int.mul_le_mul_of_nonneg_left (by omega) (by omega)
    have h6 : e * (n.natAbs + 1) = n.natAbs * e + e := by rw [Int.mul_add, Int.mul_one, Int.mul_comm]
    omega
  have h2 : -((n.natAbs : Int) + 1) ≤ (n + n + e) / (e + e) := by
    rw [Int.le_ediv_iff_mul_le (by omega)]
    have h5 : (n.natAbs : Int) * 1 ≤ n.natAbs * e := Int.mul_le_mul_of_nonneg_left (by omega) (by omega)
    have h6 : -((n.natAbs : Int) + 1) * (e + e) = -(n.natAbs * e + e + (n.natAbs * e + e)) := by
      rw [Int.neg_mul, Int.add_mul, Int.mul_add, Int.one_mul]; omega
    omega
  omega
theorem rndF_nonneg {n e : Int} (he : 0 < e) (hn : 0 ≤ n) : 0 ≤ rndF n e := Int.ediv_nonneg (by omega) (by omega)
theorem rndF_nonpos {n e : Int} (he : 0 < e) (hn : n ≤ 0) : rndF n e ≤ 0 := by
  unfold rndF
  have : (n + n + e) / (e + e) < 1 := Int.ediv_lt_of_lt_mul (by omega) (by omega)
  omega
theorem rndF_sum {n e : Int} (he : 0 < e) : 0 ≤ rndF n e + rndF (-n) e ∧ rndF n e + rndF (-n) e ≤ 1 := by
  unfold rndF
  have h1 := Int.emod_add_mul_ediv (n + n + e) (e + e)
  have h2 := Int.emod_nonneg (n + n + e) (b := e + e) (by omega)
  have h3 := Int.emod_lt_of_pos (n + n + e) (b := e + e) (by omega)
  have h4 := Int.emod_add_mul_ediv (-n + -n + e) (e + e)
  have h5 := Int.emod_nonneg (-n + -n + e) (b := e + e) (by omega)
  have h6 := Int.emod_lt_of_pos (-n + -n + e) (b := e + e) (by omega)
  generalize (n + n + e) / (e + e) = x at *
  generalize (-n + -n + e) / (e + e) = y at *
  have h7 : (e + e) * (x + y) = (e + e) - (n + n + e) % (e + e) - (-n + -n + e) % (e + e) + ((e + e) - (e + e)) := by rw [Int.mul_add]; omega
  rcases Int.lt_or_le (x + y) 0 with h | h
  · have := Int.mul_le_mul_of_nonneg_left (show x + y ≤ -1 by omega) (show 0 ≤ e + e by omega)
    omega
  · rcases Int.lt_or_le 1 (x + y) with h8 | h8
    · have := Int.mul_le_mul_of_nonneg_left (show 2 ≤ x + y by omega) (show 0 ≤ e + e by omega)
      omega
    · exact ⟨h, h8⟩
structure SideFacts (f p q r u e : Int) : Prop where
  q0 : inR (sideF f p q r u e)
  q1 : inR (p * q)
  q2 : inR (r * u)
  q3 : inR (p * q + r * u)
  q4 : inR (2 * e)
  q5 : inR (p * q + r * u + (p * q + r * u))
  q6 : inR (2 * e + 2 * e)
  q7 : inR (p * q + r * u + (p * q + r * u) + 2 * e)
  q8 : inR (rndF (p * q + r * u) (2 * e))
  q9 : inR f
theorem side_facts {f p q r u e : Int} (hf : f.natAbs ≤ 2 ^ 62) (hp : p.natAbs ≤ 2 ^ 62) (hq : q.natAbs ≤ 2 ^ 62) (hr : r.natAbs ≤ 2 ^ 62) (hu : u.natAbs ≤ 2 ^ 62) (he : 0 < e ∧ e ≤ 2 ^ 61) : SideFacts f p q r u e := by
  have h1 : (p * q).natAbs ≤ 2 ^ 124 := Nat.le_trans (mul_bd hp hq) (by decide)
  have h2 : (r * u).natAbs ≤ 2 ^ 124 := Nat.le_trans (mul_bd hr hu) (by decide)
  have h4 := rndF_bd (n := p * q + r * u) (e := 2 * e) (by omega)
  have h5 : (sideF f p q r u e) = rndF (p * q + r * u) (2 * e) + f := rfl
  refine ⟨inR_abs ?_, inR_abs ?_, inR_abs ?_, inR_abs ?_, inR_abs ?_, inR_abs ?_, inR_abs ?_, inR_abs ?_, inR_abs ?_, inR_abs ?_⟩
  · rw [h5]; generalize rndF (p * q + r * u) (2 * e) = z at *; generalize p * q = a at *; generalize r * u = b at *; omega
  all_goals (generalize rndF (p * q + r * u) (2 * e) = z at *; generalize p * q = a at *; generalize r * u = b at *; omega)
/-! ### The places -/
def farB (x y : Int) : Bool := decide (x < -4194304) || decide (x > 4194304) || decide (y < -4194304) || decide (y > 4194304)
theorem farB_no {x y : Int} (h : farB x y = false) : (-4194304 ≤ x ∧ x ≤ 4194304) ∧ (-4194304 ≤ y ∧ y ≤ 4194304) := by
  simp only [farB, Bool.or_eq_false_iff, decide_eq_false_iff_not] at h
  omega
def rngB (r : Int) : Bool := decide (0 ≤ r) && decide (r ≤ 2097152)
theorem rngB_yes {r : Int} (h : rngB r = true) : 0 ≤ r ∧ r ≤ 2097152 := by
  simpa [rngB] using h
structure Pl where
  x : Int
  y : Int
  ok : Bool
def placeF (px py a k dx dy d : Int) : Pl :=
  let x := sideF px a dx (-k) dy d
  let y := sideF py a dy k dx d
  ⟨i64of x, i64of y, fit64 x && fit64 y && !farB (i64of x) (i64of y)⟩
section
variable (px py r qx qy s base : Int)
def mD : Int := (qx - px) * (qx - px) + (qy - py) * (qy - py)
def mA : Int := r * r - s * s + mD px py qx qy
def mRest : Int := 4 * r * r * mD px py qx qy - mA px py r qx qy s * mA px py r qx qy s
def mK : Int := isq (mRest px py r qx qy s).toNat
def mP1 : Pl := placeF px py (mA px py r qx qy s) (mK px py r qx qy s) (qx - px) (qy - py) (mD px py qx qy)
def mP2 : Pl := placeF px py (mA px py r qx qy s) (-mK px py r qx qy s) (qx - px) (qy - py) (mD px py qx qy)
def mBad : Bool := farB px py || farB qx qy || !(rngB r && rngB s) || decide (base < 1) || decide (base > 4194304)
/-- The number of the error; 0: none. -/
def meetE : Int :=
  if mBad px py r qx qy s base = true then 27
  else if mD px py qx qy < base * base then 33
  else if mRest px py r qx qy s < 0 then 34
  else if (mP1 px py r qx qy s).ok = false ∨ (mP2 px py r qx qy s).ok = false then 21
  else 0
end
theorem sq_nat (x : Int) : x * x = ((x.natAbs * x.natAbs : Nat) : Int) := by rw [Int.natCast_mul, Int.natAbs_mul_self']
theorem sq_le {x : Int} {B : Nat} (h : x.natAbs ≤ B) : 0 ≤ x * x ∧ x * x ≤ ((B * B : Nat) : Int) := by
  rw [sq_nat]
  have := Nat.mul_le_mul h h
  omega
theorem mD_bd {px py qx qy : Int} (hp : farB px py = false) (hq : farB qx qy = false) : (qx - px).natAbs ≤ 8388608 ∧ (qy - py).natAbs ≤ 8388608 ∧ 0 ≤ mD px py qx qy ∧ mD px py qx qy ≤ 140737488355328 ∧
    0 ≤ (qx - px) * (qx - px) ∧ (qx - px) * (qx - px) ≤ 70368744177664 ∧ 0 ≤ (qy - py) * (qy - py) ∧ (qy - py) * (qy - py) ≤ 70368744177664 := by
  obtain ⟨h1, h2⟩ := farB_no hp
  obtain ⟨h3, h4⟩ := farB_no hq
  have h5 := sq_le (show (qx - px).natAbs ≤ 8388608 by omega)
  have h6 := sq_le (show (qy - py).natAbs ≤ 8388608 by omega)
  unfold mD
  generalize (qx - px) * (qx - px) = a at *
  generalize (qy - py) * (qy - py) = b at *
  omega
theorem mA_bd {px py r qx qy s : Int} (hp : farB px py = false) (hq : farB qx qy = false) (hr : rngB r = true) (hs : rngB s = true) :
    0 ≤ r * r ∧ r * r ≤ 4398046511104 ∧ 0 ≤ s * s ∧ s * s ≤ 4398046511104 ∧ (mA px py r qx qy s).natAbs ≤ 145135534866432 ∧ 0 ≤ 4 * r * r ∧ 4 * r * r ≤ 17592186044416 := by
  have h1 := mD_bd hp hq
  have h2 := rngB_yes hr
  have h3 := rngB_yes hs
  have h4 := sq_le (show r.natAbs ≤ 2097152 by omega)
  have h5 := sq_le (show s.natAbs ≤ 2097152 by omega)
  have h6 : 4 * r * r = 4 * (r * r) := by rw [Int.mul_assoc]
  rw [h6]
  unfold mA
  generalize r * r = a at *
  generalize s * s = b at *
  omega
theorem mRest_bd {px py r qx qy s : Int} (hp : farB px py = false) (hq : farB qx qy = false) (hr : rngB r = true) (hs : rngB s = true) :
    mRest px py r qx qy s ≤ 2475880078570760549798248448 ∧ (mRest px py r qx qy s).natAbs ≤ 2 ^ 100 := by
  have h1 := mD_bd hp hq
  have h2 := mA_bd (qx := qx) (qy := qy) hp hq hr hs
  have h3 := sq_le h2.2.2.2.2.1
  have h4 : 0 ≤ 4 * r * r * mD px py qx qy := Int.mul_nonneg h2.2.2.2.2.2.1 h1.2.2.1
  have h5 : 4 * r * r * mD px py qx qy ≤ 17592186044416 * 140737488355328 := Int.mul_le_mul h2.2.2.2.2.2.2 h1.2.2.2.1 h1.2.2.1 (by omega)
  unfold mRest
  generalize 4 * r * r * mD px py qx qy = a at *
  generalize mA px py r qx qy s * mA px py r qx qy s = b at *
  have : (2 : Nat) ^ 100 = 1267650600228229401496703205376 := by decide
  rw [this]
  omega
theorem mK_bd {px py r qx qy s : Int} (hp : farB px py = false) (hq : farB qx qy = false) (hr : rngB r = true) (hs : rngB s = true) : 0 ≤ mK px py r qx qy s ∧ mK px py r qx qy s < 70368744177664 := by
  have h1 := (mRest_bd (qx := qx) (qy := qy) hp hq hr hs).1
  unfold mK
  refine ⟨by omega, ?_⟩
  have h2 := (isq_spec (X := (mRest px py r qx qy s).toNat) (by show _ < 18446744073709551616 * 18446744073709551616; omega)).1
  generalize isq (mRest px py r qx qy s).toNat = z at *
  have h3 : ¬ 70368744177664 ≤ z := fun hz => by
    have := Nat.mul_le_mul hz hz
    omega
  omega
theorem limb_two {x : Int} (h0 : 0 ≤ x) (h : x < 340282366920938463463374607431768211456) : limb x 1 * BB + limb x 0 = x.toNat := by
  obtain ⟨n, rfl⟩ : ∃ n : Nat, x = n := ⟨x.toNat, by omega⟩
  rw [limb_nat, limb_nat, Int.toNat_natCast, Nat.pow_one, Nat.pow_zero, Nat.div_one]
  unfold BB
  omega
/-- The square of a way. -/
def hyp2 (x y : Int) : Nat := (x * x + y * y).toNat
def offE (px py qx qy r : Int) : Int := if (farB px py || farB qx qy || !rngB r) = true then 27 else 0
def offV (px py qx qy r : Int) : Int := (((isq (hyp2 (px - qx) (py - qy)) : Int) - r).natAbs : Int)
theorem isq_32 {x : Nat} (h : x < 18446744073709551616) : isq x < 4294967296 := by
  have h1 := (isq_spec (X := x) (Nat.lt_of_lt_of_le h (by decide))).1
  refine Classical.byContradiction fun hn => ?_
  have := Nat.mul_le_mul (show 4294967296 ≤ isq x by omega) (show 4294967296 ≤ isq x by omega)
  omega
theorem hyp2_bd {px py qx qy : Int} (hp : farB px py = false) (hq : farB qx qy = false) : isq (hyp2 (px - qx) (py - qy)) < 4294967296 := by
  obtain ⟨h1, h2⟩ := farB_no hp
  obtain ⟨h3, h4⟩ := farB_no hq
  have h5 := sq_le (show (px - qx).natAbs ≤ 8388608 by omega)
  have h6 := sq_le (show (py - qy).natAbs ≤ 8388608 by omega)
  refine isq_32 ?_
  unfold hyp2
  generalize (px - qx) * (px - qx) = a at *
  generalize (py - qy) * (py - qy) = b at *
  omega
def pickE (ax ay bx by' px py r near : Int) : Int :=
  if offE ax ay px py r ≠ 0 then 27
  else if offE bx by' px py r ≠ 0 then 27
  else if rngB near = false then 27
  else if offV ax ay px py r ≤ near ∧ offV bx by' px py r > near then 0
  else if offV bx by' px py r ≤ near ∧ offV ax ay px py r > near then 0
  else 34
/-- Is it the first one? -/
def pickA (ax ay bx by' px py r near : Int) : Bool := decide (offV ax ay px py r ≤ near ∧ offV bx by' px py r > near)
theorem sign_lt (x : Int) : decide (x.sign < 0) = decide (x < 0) := by
  rw [decide_eq_decide]
  exact Int.sign_neg_iff
theorem meet27 {px py r qx qy s base : Int} (h : mBad px py r qx qy s base = true) : meetE px py r qx qy s base = 27 := by unfold meetE; rw [if_pos h]
theorem meet33 {px py r qx qy s base : Int} (h : mBad px py r qx qy s base = false) (h2 : mD px py qx qy < base * base) : meetE px py r qx qy s base = 33 := by unfold meetE; rw [h, if_neg (by decide), if_pos h2]
theorem meet34 {px py r qx qy s base : Int} (h : mBad px py r qx qy s base = false) (h2 : ¬ mD px py qx qy < base * base) (h3 : mRest px py r qx qy s < 0) : meetE px py r qx qy s base = 34 := by unfold meetE; rw [h, if_neg (by decide), if_neg h2, if_pos h3]
theorem meet21 {px py r qx qy s base : Int} (h : mBad px py r qx qy s base = false) (h2 : ¬ mD px py qx qy < base * base) (h3 : ¬ mRest px py r qx qy s < 0) (h4 : (mP1 px py r qx qy s).ok = false ∨ (mP2 px py r qx qy s).ok = false) : meetE px py r qx qy s base = 21 := by
  unfold meetE; rw [h, if_neg (by decide), if_neg h2, if_neg h3, if_pos h4]
theorem meet0 {px py r qx qy s base : Int} (h : mBad px py r qx qy s base = false) (h2 : ¬ mD px py qx qy < base * base) (h3 : ¬ mRest px py r qx qy s < 0) (h4 : (mP1 px py r qx qy s).ok = true) (h5 : (mP2 px py r qx qy s).ok = true) : meetE px py r qx qy s base = 0 := by
  unfold meetE; rw [h, if_neg (by decide), if_neg h2, if_neg h3, if_neg (by rw [h4, h5]; simp)]
end Go.Proofs.YtnkbhmonceiocaaDoor
