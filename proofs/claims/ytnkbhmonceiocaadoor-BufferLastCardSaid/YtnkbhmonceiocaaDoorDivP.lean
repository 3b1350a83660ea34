/-
  The plain laws behind a division of two limbs by one: no program stands in it.
-/
import Derived.Test.YtnkbhmonceiocaaDoorMulP
import Derived.Lib.ItoaNum
namespace Go.Proofs.YtnkbhmonceiocaaDoor
open Go Go.RowKit
abbrev B32 : Nat := 4294967296
def lz (y : Nat) : Nat := 64 - Lib.bitLen y
theorem lz_norm {y : Nat} (h0 : 0 < y) (hy : y < BB) : lz y ≤ 63 ∧ 2 ^ 63 ≤ y * 2 ^ lz y ∧ y * 2 ^ lz y < BB ∧ Lib.bitLen y ≤ 64 := by
  have h := Lib.bitLenAux_bounds 64 y (show y < 2 ^ 64 from hy) (by omega)
  have hb : Lib.bitLenAux 64 y = Lib.bitLen y := rfl
  rw [hb] at h
  have h64 : Lib.bitLen y ≤ 64 := Lib.bitLen_le y 64 (by omega) (show y < 2 ^ 64 from hy)
  unfold lz
  refine ⟨by omega, ?_, ?_, h64⟩
  · have := Nat.mul_le_mul_right (2 ^ (64 - Lib.bitLen y)) h.2.1
    rw [← Nat.pow_add, show Lib.bitLen y - 1 + (64 - Lib.bitLen y) = 63 by omega] at this
    exact this
  · have := (Nat.mul_lt_mul_right (show 0 < 2 ^ (64 - Lib.bitLen y) from Nat.pow_pos (by decide))).2 h.2.2
    rw [← Nat.pow_add, show Lib.bitLen y + (64 - Lib.bitLen y) = 64 by omega] at this
    exact this
/-! ### One digit -/
section
variable {b : Nat}
theorem dig_ge {u w v1 v0 : Nat} (hv : 0 < v1) (hw : w < b) : (u * b + w) / (v1 * b + v0) ≤ u / v1 := by
  rw [Nat.le_div_iff_mul_le hv]
  have h := Nat.div_mul_le_self (u * b + w) (v1 * b + v0)
  generalize (u * b + w) / (v1 * b + v0) = q at *
  refine Classical.byContradiction fun hn => ?_
  have h1 := Nat.mul_le_mul_right b (show u + 1 ≤ q * v1 by omega)
  rw [Nat.mul_add, ← Nat.mul_assoc] at h
  rw [Nat.add_mul, Nat.one_mul] at h1
  omega
theorem dig_step {q r u w v1 v0 : Nat} (h : q * v1 + r = u) (hU : u * b + w < (v1 * b + v0) * b) (hc : b ≤ q ∨ b * r + w < q * v0) :
    (u * b + w) / (v1 * b + v0) ≤ q - 1 ∧ 1 ≤ q := by
  have hlt : (u * b + w) / (v1 * b + v0) < q := by
    rcases hc with hc | hc
    · exact Nat.lt_of_lt_of_le (Nat.div_lt_of_lt_mul hU) hc
    · refine Nat.div_lt_of_lt_mul ?_
      have e1 : (v1 * b + v0) * q = q * v1 * b + q * v0 := by rw [Nat.mul_comm, Nat.mul_add, Nat.mul_assoc]
      have e2 : u * b = q * v1 * b + b * r := by rw [← h, Nat.add_mul, Nat.mul_comm r b]
      omega
  exact ⟨Nat.le_pred_of_lt hlt, Nat.lt_of_le_of_lt (Nat.zero_le _) hlt⟩
theorem dig_lt {q r u w v1 v0 : Nat} (h : q * v1 + r = u) (hv0 : v0 < b) (hU : u * b + w < (v1 * b + v0) * b) (hr : b ≤ r) : q < b := by
  refine Classical.byContradiction fun hn => ?_
  have h1 := Nat.mul_le_mul_right v1 (show b ≤ q by omega)
  have h2 : u < v1 * b + v0 := by
    refine Classical.byContradiction fun hu => ?_
    have := Nat.mul_le_mul_right b (show v1 * b + v0 ≤ u by omega)
    omega
  have h3 : v1 * b = b * v1 := Nat.mul_comm _ _
  omega
theorem dig_end {q r u w v1 v0 : Nat} (h : q * v1 + r = u) (hv : 0 < v1) (hv0 : v0 < b) (hQ : (u * b + w) / (v1 * b + v0) ≤ q) (hU : u * b + w < (v1 * b + v0) * b)
    (hc : (q * v0 ≤ b * r + w) ∨ b ≤ r) : q = (u * b + w) / (v1 * b + v0) := by
  refine Nat.le_antisymm ?_ hQ
  have hY : 0 < v1 * b + v0 := by have := Nat.mul_pos hv (show 0 < b by omega); omega
  rw [Nat.le_div_iff_mul_le hY]
  have hc2 : q * v0 ≤ b * r + w := by
    rcases hc with hc | hc
    · exact hc
    · have h1 := dig_lt h hv0 hU hc
      have h2 := Nat.mul_le_mul (Nat.le_of_lt h1) (Nat.le_of_lt hv0)
      have h3 := Nat.mul_le_mul_left b hc
      omega
  have e1 : q * (v1 * b + v0) = q * v1 * b + q * v0 := by rw [Nat.mul_add, Nat.mul_assoc]
  have e2 : u * b = q * v1 * b + b * r := by rw [← h, Nat.add_mul, Nat.mul_comm r b]
  omega
theorem dig_b {A v1 v0 Y : Nat} (h : v1 * b + v0 = Y) (hU : A < (v1 * b + v0) * b) : A / Y < b := by subst h; exact Nat.div_lt_of_lt_mul hU
theorem dig_u {u w v1 v0 Y : Nat} (h : v1 * b + v0 = Y) (hu : u < Y) (hw : w < b) : u * b + w < (v1 * b + v0) * b := by
  subst h
  have := Nat.mul_le_mul_right b (show u + 1 ≤ v1 * b + v0 by omega)
  rw [Nat.add_mul, Nat.one_mul] at this
  omega
theorem q_le {q v r u : Nat} (h : q * v + r = u) (hv : 0 < v) : q ≤ u := by
  have := Nat.le_mul_of_pos_right q hv
  omega
/-- Two digits make the quotient and the rest. -/
theorem two_digits {u w1 w0 Y : Nat} (hY : 0 < Y) :
    (u * b + w1) / Y * b + ((u * b + w1) % Y * b + w0) / Y = (u * (b * b) + (w1 * b + w0)) / Y ∧ ((u * b + w1) % Y * b + w0) % Y = (u * (b * b) + (w1 * b + w0)) % Y := by
  have h1 := Nat.div_add_mod (u * b + w1) Y
  generalize hq : (u * b + w1) / Y = q at *
  generalize hr : (u * b + w1) % Y = r at *
  have e : u * (b * b) + (w1 * b + w0) = Y * (q * b) + (r * b + w0) := by
    have : (Y * q + r) * b = (u * b + w1) * b := by rw [h1]
    rw [Nat.add_mul, Nat.add_mul, Nat.mul_assoc, Nat.mul_assoc] at this
    omega
  rw [e, Nat.mul_add_div hY, Nat.mul_add_mod]
  exact ⟨rfl, rfl⟩
end
theorem wrap3 {a b : Nat} (h1 : b ≤ a) (h2 : a - b < BB) : (((a % BB : Nat) : Int) - ((b % BB : Nat) : Int)) % 18446744073709551616 = ((a - b : Nat) : Int) := by unfold BB at *; omega
theorem mod_sub {a y : Nat} : a - a / y * y = a % y := by have := Nat.div_add_mod a y; rw [Nat.mul_comm] at this; omega
theorem mul32 {q v : Nat} (hq : q < B32) (hv : v < B32) : q * v < BB := by
  unfold B32 at hq hv
  have h : q * v ≤ 18446744065119617025 := by
    have := Nat.mul_le_mul (show q ≤ 4294967295 by omega) (show v ≤ 4294967295 by omega)
    simpa using this
  unfold BB
  omega
/-! ### The whole -/
theorem lo_part {l s : Nat} (hs : s ≤ 63) (hl : l < BB) : l / 2 ^ (64 - s) < 2 ^ s := by
  refine Nat.div_lt_of_lt_mul ?_
  rw [← Nat.pow_add, show 64 - s + s = 64 by omega]
  exact hl
theorem or_sum {h l s : Nat} (hs : s ≤ 63) (hl : l < BB) (hh : h * 2 ^ s < BB) : (h * 2 ^ s % BB) ||| (l / 2 ^ (64 - s)) = h * 2 ^ s + l / 2 ^ (64 - s) := by
  have h1 := lo_part hs hl
  have h2 : h * 2 ^ s % BB = h * 2 ^ s := Nat.mod_eq_of_lt hh
  rw [h2]
  generalize l / 2 ^ (64 - s) = z at *
  have h3 := Nat.shiftLeft_add_eq_or_of_lt h1 h
  rw [Nat.shiftLeft_eq] at h3
  exact h3.symm
theorem two_parts {h l s : Nat} (hs : s ≤ 63) : (h * BB + l) * 2 ^ s = (h * 2 ^ s + l / 2 ^ (64 - s)) * BB + l * 2 ^ s % BB := by
  have e : l / 2 ^ (64 - s) = l * 2 ^ s / BB := by
    have : BB = 2 ^ (64 - s) * 2 ^ s := by rw [← Nat.pow_add, show 64 - s + s = 64 by omega]
    rw [this, Nat.mul_div_mul_right _ _ (Nat.pow_pos (by decide))]
  have h2 := Nat.div_add_mod (l * 2 ^ s) BB
  rw [e]
  have e1 : (h * BB + l) * 2 ^ s = h * 2 ^ s * BB + l * 2 ^ s := by rw [Nat.add_mul, Nat.mul_right_comm]
  have e2 : (h * 2 ^ s + l * 2 ^ s / BB) * BB = h * 2 ^ s * BB + BB * (l * 2 ^ s / BB) := by rw [Nat.add_mul, Nat.mul_comm (l * 2 ^ s / BB)]
  rw [e1, e2, Nat.add_assoc, h2]
theorem hi_lt {h l y s : Nat} (hs : s ≤ 63) (hl : l < BB) (hy : h < y) : h * 2 ^ s + l / 2 ^ (64 - s) < y * 2 ^ s := by
  have h1 : l / 2 ^ (64 - s) < 2 ^ s := by
    refine Nat.div_lt_of_lt_mul ?_
    rw [← Nat.pow_add, show 64 - s + s = 64 by omega]
    exact hl
  have := Nat.mul_le_mul_right (2 ^ s) (show h + 1 ≤ y by omega)
  rw [Nat.add_mul] at this
  omega
theorem div64_fin {h l y s : Nat} : ((h * BB + l) * 2 ^ s) / (y * 2 ^ s) = (h * BB + l) / y ∧ ((h * BB + l) * 2 ^ s) % (y * 2 ^ s) / 2 ^ s = (h * BB + l) % y := by
  have hp : 0 < 2 ^ s := Nat.pow_pos (by decide)
  refine ⟨Nat.mul_div_mul_right _ _ hp, ?_⟩
  rw [Nat.mul_mod_mul_right, Nat.mul_div_cancel _ hp]
/-! ### The words of the walk -/
theorem and_mask (y : Nat) : y &&& 4294967295 = y % 4294967296 := Nat.and_two_pow_sub_one_eq_mod y 32
theorem smod (u v : Nat) : (u : Int) - ((u / v * v : Nat) : Int) = ((u % v : Nat) : Int) := by
  have := Nat.div_add_mod u v
  rw [Nat.mul_comm] at this
  generalize u / v * v = z at *
  generalize u % v = y at *
  omega
theorem dig_next {q r u v1 : Nat} (h : q * v1 + r = u) (h1 : 1 ≤ q) : (q - 1) * v1 + (r + v1) = u := by
  obtain ⟨k, rfl⟩ : ∃ k, q = k + 1 := ⟨q - 1, by omega⟩
  rw [Nat.add_mul] at h
  rw [Nat.add_sub_cancel]
  omega
theorem wrapmul (a b : Nat) : ((a : Int) * (b : Int)) % 18446744073709551616 = ((a * b % 18446744073709551616 : Nat) : Int) := by
  rw [← Int.natCast_mul]
  generalize a * b = z
  omega
theorem wrapmod {A Y : Nat} (h0 : 0 < Y) (hY : Y ≤ 18446744073709551616) : (((A % 18446744073709551616 : Nat) : Int) - ((A / Y * Y % 18446744073709551616 : Nat) : Int)) % 18446744073709551616 = ((A % Y : Nat) : Int) := by
  have h1 := Nat.div_mul_le_self A Y
  have h2 := Nat.mod_lt A h0
  have h3 := mod_sub (a := A) (y := Y)
  rw [← h3] at h2 ⊢
  generalize A / Y * Y = z at *
  omega
theorem div64_zero {h l y : Nat} (h0 : ((h : Nat) : Int) = 0) : Value.tuple #[.int .u64 ((l / y : Nat) : Int), .int .u64 ((l % y : Nat) : Int)] = .tuple #[.int .u64 (((h * BB + l) / y : Nat) : Int), .int .u64 (((h * BB + l) % y : Nat) : Int)] := by
  have : h = 0 := by omega
  subst this
  rw [Nat.zero_mul, Nat.zero_add]
theorem div64_post {h l y s u n w1 w0 Y Q1 u2 Q0 r0 : Nat} (hs : s ≤ 63) (hy : 0 < y) (hu : u = h * 2 ^ s + l / 2 ^ (64 - s)) (hn : n = l * 2 ^ s % BB) (hw : w1 * 4294967296 + w0 = n) (hY : Y = y * 2 ^ s)
    (hQ1 : Q1 = (u * 4294967296 + w1) / Y) (hu2 : u2 = (u * 4294967296 + w1) % Y) (hQ0 : Q0 = (u2 * 4294967296 + w0) / Y) (hr0 : r0 = (u2 * 4294967296 + w0) % Y) :
    Value.tuple #[.int .u64 ((Q1 * 4294967296 + Q0 : Nat) : Int), .int .u64 ((r0 / 2 ^ s : Nat) : Int)] = .tuple #[.int .u64 (((h * BB + l) / y : Nat) : Int), .int .u64 (((h * BB + l) % y : Nat) : Int)] := by
  have hYp : 0 < Y := by rw [hY]; exact Nat.mul_pos hy (Nat.pow_pos (by decide))
  have h1 := two_digits (b := 4294967296) (u := u) (w1 := w1) (w0 := w0) hYp
  rw [show (4294967296 * 4294967296 : Nat) = BB from rfl, hw, hu, hn, ← two_parts hs, hY, div64_fin.1] at h1
  have h2 := h1.2
  rw [← hu, ← hY, ← hu2, ← hr0] at h2
  have h3 := h1.1
  rw [← hu, ← hY, ← hu2, ← hQ0, ← hQ1] at h3
  rw [h3, h2, hY, div64_fin.2]
end Go.Proofs.YtnkbhmonceiocaaDoor
