/-
  The plain laws behind a division of sixteen limbs by one: no program stands in it.
-/
import Derived.Test.YtnkbhmonceiocaaDoorDivP
namespace Go.Proofs.YtnkbhmonceiocaaDoor
open Go Go.RowKit
theorem limb_nat (X i : Nat) : limb (X : Int) i = X / BB ^ i % BB := by
  unfold limb
  rw [← Int.natCast_ediv, ← Int.natCast_emod, Int.toNat_natCast]
theorem div_pw (X k : Nat) : X / BB ^ (k + 1) * BB + X / BB ^ k % BB = X / BB ^ k := by
  rw [pw_succ, ← Nat.div_div_eq_div_mul]
  exact Nat.div_add_mod' _ _
theorem short_step {X v k r : Nat} (hv : 0 < v) (hr : r = X / BB ^ (k + 1) % v) : (r * BB + limb (X : Int) k) / v = limb ((X / v : Nat) : Int) k ∧ (r * BB + limb (X : Int) k) % v = X / BB ^ k % v := by
  rw [limb_nat, limb_nat]
  have h1 := div_pw X k
  have hl : X / BB ^ k % BB < BB := Nat.mod_lt _ (by decide)
  have hr2 : r < v := by rw [hr]; exact Nat.mod_lt _ hv
  have h2 := Nat.div_add_mod (X / BB ^ (k + 1)) v
  rw [← hr] at h2
  have h3 : X / v / BB ^ k = X / BB ^ k / v := by rw [Nat.div_div_eq_div_mul, Nat.div_div_eq_div_mul, Nat.mul_comm]
  rw [h3]
  generalize X / BB ^ k % BB = c at *
  generalize X / BB ^ k = t at *
  generalize hq : X / BB ^ (k + 1) / v = q at *
  have e : t = v * (q * BB) + (r * BB + c) := by rw [← h1, ← h2, Nat.add_mul, Nat.mul_assoc]; omega
  rw [e, Nat.mul_add_div hv, Nat.mul_add_mod]
  refine ⟨?_, rfl⟩
  have hlt : (r * BB + c) / v < BB := by
    refine Nat.div_lt_of_lt_mul ?_
    have := Nat.mul_le_mul_right BB (show r + 1 ≤ v by omega)
    rw [Nat.add_mul] at this
    omega
  rw [Nat.mul_comm q BB, Nat.mul_add_mod, Nat.mod_eq_of_lt hlt]
theorem short_r0 {X v : Nat} (hX : X < BB ^ 16) : 0 = X / BB ^ 16 % v := by rw [Nat.div_eq_of_lt hX, Nat.zero_mod]
theorem short_r1 {X v r : Nat} (hr : r = X / BB ^ 0 % v) : r = X % v := by rw [hr, Nat.pow_zero, Nat.div_one]
theorem short_lt {X v k r : Nat} (hv : 0 < v) (hr : r = X / BB ^ k % v) : r < v := by rw [hr]; exact Nat.mod_lt _ hv
theorem updD {k : Nat} {g f : Nat → Nat} (hg : ∀ i, k + 1 ≤ i → i < 16 → g i = f i) : ∀ i, k ≤ i → i < 16 → upd g k (f k) i = f i := fun i h1 hi => by
  unfold upd
  by_cases e : i = k
  · subst e; rw [if_pos rfl]
  · rw [if_neg e]; exact hg i (by omega) hi
theorem updK {k v : Nat} {g f : Nat → Nat} (hg : ∀ i, i < k + 1 → g i = f i) : ∀ i, i < k → upd g k v i = f i := fun i hi => by
  unfold upd; rw [if_neg (by omega)]; exact hg i (by omega)
theorem Wd_one {r : Nat} (hr : r < BB) : AF 16 (upd (fun _ => 0) 0 r) = Wd (r : Int) := by
  refine AF_congr fun i hi => ?_
  rw [limb_nat]
  unfold upd
  by_cases e : i = 0
  · subst e; rw [if_pos rfl, Nat.pow_zero, Nat.div_one, Nat.mod_eq_of_lt hr]
  · rw [if_neg e, Nat.div_eq_of_lt, Nat.zero_mod]
    exact Nat.lt_of_lt_of_le hr (by have := Nat.pow_le_pow_right (show 0 < BB by decide) (show 1 ≤ i by omega); rw [Nat.pow_one] at this; exact this)
end Go.Proofs.YtnkbhmonceiocaaDoor
