/-
  Numbers in limbs of 64 bits, two's complement: plain laws. No program text stands in it.
-/
import Derived.Test.YtnkbhmonceiocaaDoorArr
namespace Go.Proofs.YtnkbhmonceiocaaDoor
open Go Go.RowKit

abbrev BB : Nat := 18446744073709551616
/-- The i-th limb of a whole number, two's complement. -/
def limb (x : Int) (i : Nat) : Nat := (x / ((BB ^ i : Nat) : Int) % (BB : Int)).toNat
/-- The number that n limbs tell. -/
def val : Nat → (Nat → Nat) → Nat
  | 0, _ => 0
  | n + 1, g => val n g + g n * BB ^ n
theorem pw_pos (n : Nat) : 0 < BB ^ n := Nat.pow_pos (by decide)
theorem pw_succ (n : Nat) : BB ^ (n + 1) = BB ^ n * BB := Nat.pow_succ _ _
theorem limb_lt (x : Int) (i : Nat) : limb x i < BB := by
  unfold limb
  have h1 := Int.emod_lt_of_pos (x / ((BB ^ i : Nat) : Int)) (b := (BB : Int)) (by decide)
  have h2 := Int.emod_nonneg (x / ((BB ^ i : Nat) : Int)) (b := (BB : Int)) (by decide)
  omega
theorem limb_cast (x : Int) (i : Nat) : (limb x i : Int) = x / ((BB ^ i : Nat) : Int) % (BB : Int) := by
  unfold limb
  have h2 := Int.emod_nonneg (x / ((BB ^ i : Nat) : Int)) (b := (BB : Int)) (by decide)
  omega
theorem val_lt {n : Nat} {g : Nat → Nat} (h : ∀ i, i < n → g i < BB) : val n g < BB ^ n := by
  induction n with
  | zero => simp [val]
  | succ n ih =>
    have h1 := ih fun i hi => h i (by omega)
    have h2 := h n (by omega)
    have h3 : g n * BB ^ n ≤ (BB - 1) * BB ^ n := Nat.mul_le_mul_right _ (by omega)
    have h4 : ∀ X, (BB - 1) * X + X = X * BB := fun X => by show 18446744073709551615 * X + X = X * 18446744073709551616; omega
    have h5 := h4 (BB ^ n)
    rw [← pw_succ] at h5
    simp only [val]
    omega
theorem val_congr {n : Nat} {g g' : Nat → Nat} (h : ∀ i, i < n → g i = g' i) : val n g = val n g' := by
  induction n with
  | zero => rfl
  | succ n ih => simp only [val]; rw [ih fun i hi => h i (by omega), h n (by omega)]
theorem emod_mul_pos (x : Int) (a b : Nat) (ha : 0 < a) (hb : 0 < b) : x % ((a * b : Nat) : Int) = x % (a : Int) + (a : Int) * (x / (a : Int) % (b : Int)) := by
  have ha' : (0 : Int) < a := by omega
  have hb' : (0 : Int) < b := by omega
  have h1 := Int.emod_nonneg x (b := (a : Int)) (by omega)
  have h2 := Int.emod_lt_of_pos x ha'
  have h3 := Int.emod_nonneg (x / (a : Int)) (b := (b : Int)) (by omega)
  have h4 := Int.emod_lt_of_pos (x / (a : Int)) hb'
  have e1 := Int.emod_add_mul_ediv x (a : Int)
  have e2 := Int.emod_add_mul_ediv (x / (a : Int)) (b : Int)
  have hx : x = (x % (a : Int) + (a : Int) * (x / (a : Int) % (b : Int))) + ((a * b : Nat) : Int) * (x / (a : Int) / (b : Int)) := by
    have e3 : (a : Int) * (x / (a : Int)) = (a : Int) * (x / (a : Int) % (b : Int)) + (a : Int) * ((b : Int) * (x / (a : Int) / (b : Int))) := by rw [← Int.mul_add, e2]
    have e4 : ((a * b : Nat) : Int) * (x / (a : Int) / (b : Int)) = (a : Int) * ((b : Int) * (x / (a : Int) / (b : Int))) := by rw [Int.natCast_mul, Int.mul_assoc]
    omega
  have hlt : x % (a : Int) + (a : Int) * (x / (a : Int) % (b : Int)) < ((a * b : Nat) : Int) := by
    have : (a : Int) * (x / (a : Int) % (b : Int)) ≤ (a : Int) * ((b : Int) - 1) := Int.mul_le_mul_of_nonneg_left (by omega) (by omega)
    have h5 : (a : Int) * ((b : Int) - 1) = (a : Int) * b - a := by rw [Int.mul_sub, Int.mul_one]
    have h6 : ((a * b : Nat) : Int) = (a : Int) * b := Int.natCast_mul a b
    omega
  have hge : 0 ≤ x % (a : Int) + (a : Int) * (x / (a : Int) % (b : Int)) := by
    have : 0 ≤ (a : Int) * (x / (a : Int) % (b : Int)) := Int.mul_nonneg (by omega) h3
    omega
  conv => lhs; rw [hx]
  rw [Int.add_mul_emod_self_left, Int.emod_eq_of_lt hge hlt]
theorem val_limb (n : Nat) (x : Int) : (val n (limb x) : Int) = x % ((BB ^ n : Nat) : Int) := by
  induction n with
  | zero => simp [val, Int.emod_one]
  | succ n ih =>
    simp only [val]
    rw [Int.natCast_add, ih, Int.natCast_mul, limb_cast, pw_succ, emod_mul_pos x (BB ^ n) BB (pw_pos n) (by decide), Int.mul_comm]
theorem limb_val {n : Nat} {g : Nat → Nat} (h : ∀ i, i < n → g i < BB) : ∀ i, i < n → limb (val n g : Nat) i = g i := by
  induction n with
  | zero => intro i hi; omega
  | succ n ih =>
    intro i hi
    have hl := val_lt fun i hi => h i (by omega : i < n + 1)
    have hl' : val n g < BB ^ n := val_lt fun i hi => h i (by omega)
    have key : ∀ j, (limb (val (n + 1) g : Nat) j : Int) = ((val (n + 1) g / BB ^ j % BB : Nat) : Int) := fun j => by rw [limb_cast]; rfl
    have key' : ∀ j, (limb (val n g : Nat) j : Int) = ((val n g / BB ^ j % BB : Nat) : Int) := fun j => by rw [limb_cast]; rfl
    by_cases e : i = n
    · subst e
      have h1 := key i
      have h2 : val (i + 1) g / BB ^ i = g i := by
        simp only [val]
        rw [Nat.add_mul_div_right _ _ (pw_pos i), Nat.div_eq_of_lt hl', Nat.zero_add]
      have h3 := h i (by omega)
      rw [h2, Nat.mod_eq_of_lt h3] at h1
      omega
    · have h0 := ih (fun i hi => h i (by omega)) i (by omega)
      have h1 := key i
      have h2 := key' i
      have h3 : val (n + 1) g / BB ^ i % BB = val n g / BB ^ i % BB := by
        simp only [val]
        have hp : BB ^ n = BB ^ i * BB * BB ^ (n - i - 1) := by rw [← pw_succ, ← Nat.pow_add]; congr 1; omega
        rw [hp, show g n * (BB ^ i * BB * BB ^ (n - i - 1)) = BB ^ i * (BB * (g n * BB ^ (n - i - 1))) by ac_rfl, Nat.add_mul_div_left _ _ (pw_pos i), Nat.add_mul_mod_self_left]
      rw [h3] at h1
      omega
/-- The row of a whole number. -/
def Wd (x : Int) : Array Value := AF 16 (limb x)
abbrev M16 : Int := ((BB ^ 16 : Nat) : Int)
theorem limb_mod (x y : Int) (h : x % M16 = y % M16) : ∀ i, i < 16 → limb x i = limb y i := by
  intro i hi
  have hx := val_limb 16 x
  have hy := val_limb 16 y
  have e : val 16 (limb x) = val 16 (limb y) := by
    have : (val 16 (limb x) : Int) = val 16 (limb y) := by rw [hx, hy]; exact h
    omega
  have h1 := limb_val (n := 16) (g := limb x) (fun i _ => limb_lt x i) i hi
  have h2 := limb_val (n := 16) (g := limb y) (fun i _ => limb_lt y i) i hi
  rw [← h1, ← h2, e]
theorem Wd_of {g : Nat → Nat} {x : Int} (hg : ∀ i, i < 16 → g i < BB) (h : (val 16 g : Int) % M16 = x % M16) : AF 16 g = Wd x :=
  AF_congr fun i hi => by rw [← limb_val hg i hi]; exact limb_mod _ _ h i hi
theorem Wd_mod {x y : Int} (h : x % M16 = y % M16) : Wd x = Wd y := AF_congr (limb_mod x y h)
theorem Wd_size (x : Int) : (Wd x).size = 16 := AF_size _ _
/-- In range. -/
def inR (x : Int) : Prop := -(2 ^ 1023) ≤ x ∧ x < 2 ^ 1023
end Go.Proofs.YtnkbhmonceiocaaDoor
