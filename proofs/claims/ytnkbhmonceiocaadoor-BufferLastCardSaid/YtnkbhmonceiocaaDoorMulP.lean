/-
  The plain laws behind the product of two numbers of sixteen limbs: no program stands in it.
-/
import Derived.Test.YtnkbhmonceiocaaDoorWideP
namespace Go.Proofs.YtnkbhmonceiocaaDoor
open Go Go.RowKit
/-- How many limbs a number's amount has. -/
def nl (x : Int) : Nat := lcnt 16 (limb (x.natAbs : Int))
theorem nl_le (x : Int) : nl x ≤ 16 := lcnt_le _ _
theorem val_nl {x : Int} (hx : inR x) : val (nl x) (limb (x.natAbs : Int)) = x.natAbs := by unfold nl; rw [val_lcnt, val_abs hx]
theorem nl_zero {x : Int} (hx : inR x) (h : nl x = 0) : x = 0 := by
  have := val_nl hx
  rw [h] at this
  have h2 : x.natAbs = 0 := this.symm
  omega
theorem nl_pos {x : Int} (hx : inR x) (h : nl x ≠ 0) : BB ^ (nl x - 1) ≤ x.natAbs := by
  have := lcnt_pos (n := 16) (g := limb (x.natAbs : Int)) h
  rw [val_abs hx] at this
  exact this
theorem val_succ (n : Nat) (g : Nat → Nat) : val (n + 1) g = val n g + g n * BB ^ n := rfl
theorem val_upd {n j v : Nat} {g : Nat → Nat} (h : j < n) : val n (upd g j v) + g j * BB ^ j = val n g + v * BB ^ j := by
  induction n with
  | zero => omega
  | succ n ih =>
    rw [val_succ, val_succ]
    by_cases e : j = n
    · subst e
      have h1 : val j (upd g j v) = val j g := val_congr fun i hi => by unfold upd; rw [if_neg (by omega)]
      have h2 : upd g j v j = v := by unfold upd; rw [if_pos rfl]
      rw [h1, h2]; omega
    · have h2 : upd g j v n = g n := by unfold upd; rw [if_neg (by omega)]
      have := ih (by omega)
      rw [h2]; omega
theorem pw_add (a b : Nat) : BB ^ (a + b) = BB ^ a * BB ^ b := Nat.pow_add _ _ _
theorem mul_step {i k c u A : Nat} {g l : Nat → Nat} (hj : i + k < 17) (hv : val 17 g + c * BB ^ (i + k) = A + u * val k l * BB ^ i) :
    val 17 (upd g (i + k) ((u * l k + g (i + k) + c) % BB)) + (u * l k + g (i + k) + c) / BB * BB ^ (i + (k + 1)) = A + u * val (k + 1) l * BB ^ i := by
  have h1 := val_upd (v := (u * l k + g (i + k) + c) % BB) (g := g) hj
  have h2 : BB ^ (i + (k + 1)) = BB * BB ^ (i + k) := by rw [← Nat.add_assoc, pw_succ, Nat.mul_comm]
  have h3 : (u * l k + g (i + k) + c) % BB * BB ^ (i + k) + (u * l k + g (i + k) + c) / BB * (BB * BB ^ (i + k)) = u * l k * BB ^ (i + k) + g (i + k) * BB ^ (i + k) + c * BB ^ (i + k) := by
    rw [← Nat.mul_assoc, ← Nat.add_mul, Nat.mul_comm (_ / BB) BB, Nat.mod_add_div, Nat.add_mul, Nat.add_mul]
  have h4 : u * val (k + 1) l * BB ^ i = u * val k l * BB ^ i + u * l k * BB ^ (i + k) := by
    rw [val_succ, Nat.mul_add, Nat.add_mul, pw_add i k, Nat.mul_comm (BB ^ i), ← Nat.mul_assoc, ← Nat.mul_assoc]
  rw [h2, h4]
  omega
theorem outer_step {i m c Y : Nat} {g l : Nat → Nat} (hj : i + m < 17) (h0 : g (i + m) = 0) (hv : val 17 g + c * BB ^ (i + m) = val i l * Y + l i * Y * BB ^ i) : val 17 (upd g (i + m) c) = val (i + 1) l * Y := by
  have h1 := val_upd (v := c) (g := g) hj
  rw [h0] at h1
  have h2 : val (i + 1) l * Y = val i l * Y + l i * Y * BB ^ i := by rw [val_succ, Nat.add_mul, Nat.mul_right_comm (l i) (BB ^ i) Y]
  omega
theorem ms1 (p t : Nat) : (((p % BB + t + 0) % BB : Nat) : Int) = (((p + t) % BB : Nat) : Int) := by congr 1; unfold BB; omega
theorem ms2 (p t : Nat) : p / BB + (p % BB + t + 0) / BB = (p + t) / BB := by unfold BB; omega
theorem ms3 (q c : Nat) : (((q % BB + c + 0) % BB : Nat) : Int) = (((q + c) % BB : Nat) : Int) := by congr 1; unfold BB; omega
theorem ms4 (q c : Nat) : q / BB + (q % BB + c + 0) / BB = (q + c) / BB := by unfold BB; omega
theorem mul_le {u v : Nat} (hu : u < BB) (hv : v < BB) : u * v ≤ 340282366920938463426481119284349108225 := by
  unfold BB at hu hv
  have := Nat.mul_le_mul (show u ≤ 18446744073709551615 by omega) (show v ≤ 18446744073709551615 by omega)
  simpa using this
theorem updB {g : Nat → Nat} {j v n : Nat} (hg : ∀ i, i < n → g i < BB) (hv : v < BB) : ∀ i, i < n → upd g j v i < BB := fun i hi => by
  unfold upd; split
  · exact hv
  · exact hg i hi
theorem updZ {g : Nat → Nat} {j v n : Nat} (m : Nat) (hg : ∀ i, m ≤ i → i < n → g i = 0) (h : j < m) : ∀ i, m ≤ i → i < n → upd g j v i = 0 := fun i h1 hi => by
  unfold upd; rw [if_neg (by omega)]; exact hg i h1 hi
theorem val_zero (n : Nat) : val n (fun _ => 0) = 0 := by
  induction n with
  | zero => rfl
  | succ n ih => rw [val_succ, ih]; simp
/-! ### What it answers -/
theorem mul_abs (x y : Int) : x * y = bif (decide (x < 0) != decide (y < 0)) then -((x.natAbs * y.natAbs : Nat) : Int) else ((x.natAbs * y.natAbs : Nat) : Int) := by
  rw [← Int.natAbs_mul]
  by_cases hx : x < 0 <;> by_cases hy : y < 0
  · rw [decide_eq_true hx, decide_eq_true hy]
    have := Int.mul_pos_of_neg_of_neg hx hy
    simp; omega
  · rw [decide_eq_true hx, decide_eq_false hy]
    have := Int.mul_nonpos_of_nonpos_of_nonneg (show x ≤ 0 by omega) (show 0 ≤ y by omega)
    simp; omega
  · rw [decide_eq_false hx, decide_eq_true hy]
    have := Int.mul_nonpos_of_nonneg_of_nonpos (show 0 ≤ x by omega) (show y ≤ 0 by omega)
    simp; omega
  · rw [decide_eq_false hx, decide_eq_false hy]
    have := Int.mul_nonneg (show 0 ≤ x by omega) (show 0 ≤ y by omega)
    simp; omega
theorem mul_post0 {x y : Int} (h : x * y = 0) : Value.tuple #[.agg (Wd 0), .bool true] = .tuple #[.agg (Wd (bif inRb (x * y) then x * y else 0)), .bool (inRb (x * y))] := by
  rw [h, inRb_true (inR_64 (by omega))]; rfl
theorem mul_postN {x y : Int} (h : ¬ inR (x * y)) : Value.tuple #[.agg (Wd 0), .bool false] = .tuple #[.agg (Wd (bif inRb (x * y) then x * y else 0)), .bool (inRb (x * y))] := by
  rw [inRb_false h]; rfl
theorem mul_big {x y : Int} (hx : inR x) (hy : inR y) (h1 : nl x ≠ 0) (h2 : nl y ≠ 0) (h : 16 ≤ nl x + nl y - 2) : ¬ inR (x * y) := fun hin => by
  have h3 := natAbs_lt hin
  rw [Int.natAbs_mul] at h3
  have h4 := Nat.mul_le_mul (nl_pos hx h1) (nl_pos hy h2)
  rw [← pw_add] at h4
  have h5 : BB ^ 16 ≤ BB ^ (nl x - 1 + (nl y - 1)) := Nat.pow_le_pow_right (by decide) (by omega)
  omega
theorem mul_val {x y : Int} {g : Nat → Nat} (hx : inR x) {n : Nat} (hn : n = nl x) (hv : val 17 g = val n (limb (x.natAbs : Int)) * y.natAbs) : val 16 g + g 16 * BB ^ 16 = x.natAbs * y.natAbs := by
  rw [hn, val_nl hx] at hv
  rw [← hv]; rfl
theorem mul_no2 {x y : Int} {g : Nat → Nat} (hx : inR x) {n : Nat} (hn : n = nl x) (hv : val 17 g = val n (limb (x.natAbs : Int)) * y.natAbs) (h : g 16 ≠ 0) : ¬ inR (x * y) := fun hin => by
  have h3 := natAbs_lt hin
  rw [Int.natAbs_mul, ← mul_val hx hn hv] at h3
  have := Nat.mul_le_mul_right (BB ^ 16) (show 1 ≤ g 16 by omega)
  omega
theorem mul_eq {x y : Int} {g : Nat → Nat} (hx : inR x) {n : Nat} (hn : n = nl x) (hv : val 17 g = val n (limb (x.natAbs : Int)) * y.natAbs) (h : g 16 = 0) :
    (bif (decide (x < 0) != decide (y < 0)) then -((val 16 g : Nat) : Int) else ((val 16 g : Nat) : Int)) = x * y := by
  have h3 := mul_val hx hn hv
  rw [h, Nat.zero_mul, Nat.add_zero] at h3
  rw [mul_abs, h3]
theorem mul_no1 {x y : Int} {g : Nat → Nat} (hx : inR x) {n : Nat} (hn : n = nl x) (hv : val 17 g = val n (limb (x.natAbs : Int)) * y.natAbs)
    (h : inRb (bif (decide (x < 0) != decide (y < 0)) then -((val 16 g : Nat) : Int) else ((val 16 g : Nat) : Int)) = false) : ¬ inR (x * y) := by
  by_cases h0 : g 16 = 0
  · rw [mul_eq hx hn hv h0] at h
    intro hin
    rw [inRb_true hin] at h; cases h
  · exact mul_no2 hx hn hv h0
theorem mul_yes {x y : Int} {g : Nat → Nat} (hx : inR x) {n : Nat} (hn : n = nl x) (hv : val 17 g = val n (limb (x.natAbs : Int)) * y.natAbs) (h0 : g 16 = 0)
    (h : inRb (bif (decide (x < 0) != decide (y < 0)) then -((val 16 g : Nat) : Int) else ((val 16 g : Nat) : Int)) = true) :
    Value.tuple #[.agg (Wd (bif (decide (x < 0) != decide (y < 0)) then -((val 16 g : Nat) : Int) else ((val 16 g : Nat) : Int))), .bool true] = .tuple #[.agg (Wd (bif inRb (x * y) then x * y else 0)), .bool (inRb (x * y))] := by
  rw [mul_eq hx hn hv h0] at h ⊢
  rw [h]; rfl
theorem wd_val16 {n : Nat} {g : Nat → Nat} (hn : 16 ≤ n) (hg : ∀ i, i < n → g i < BB) : (AF n g).extract 0 (0 + 16) = Wd ((val 16 g : Nat) : Int) := by
  rw [Nat.zero_add, AF_extract hn]
  exact AF_congr fun i hi => (limb_val (fun j hj => hg j (by omega)) i hi).symm
theorem val16_lt {n : Nat} {g : Nat → Nat} (hn : 16 ≤ n) (hg : ∀ i, i < n → g i < BB) : val 16 g < BB ^ 16 := val_lt fun i hi => hg i (by omega)
theorem q64 {n : Nat} (h : n < BB) : 0 ≤ (n : Int) ∧ (n : Int) < 18446744073709551616 := by unfold BB at h; omega
theorem mul_b1 {u v t : Nat} (hu : u < BB) (hv : v < BB) (ht : t < BB) : (u * v + t) / BB < BB := by
  have := mul_le hu hv
  unfold BB at *
  omega
theorem mul_b2 {u v t c : Nat} (hu : u < BB) (hv : v < BB) (ht : t < BB) (hc : c < BB) : (u * v + t + c) / BB < BB := by
  have := mul_le hu hv
  unfold BB at *
  omega
end Go.Proofs.YtnkbhmonceiocaaDoor
