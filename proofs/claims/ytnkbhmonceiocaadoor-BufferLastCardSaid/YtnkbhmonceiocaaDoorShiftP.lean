/-
  The plain laws behind moving a row of limbs by some bits: no program stands in it.
-/
import Derived.Test.YtnkbhmonceiocaaDoorTakeP
namespace Go.Proofs.YtnkbhmonceiocaaDoor
open Go Go.RowKit
theorem pw64 {e : Nat} (h : e ≤ 64) : 2 ^ (64 - e) * 2 ^ e = BB := by rw [← Nat.pow_add, Nat.sub_add_cancel h]
theorem shl_mod (x : Nat) {e : Nat} (h : e ≤ 64) : x * 2 ^ e % BB = x % 2 ^ (64 - e) * 2 ^ e := by rw [← pw64 h, Nat.mul_mod_mul_right]
theorem shl_or {a x e : Nat} (h : e ≤ 64) (ha : a < 2 ^ e) : a ||| (x * 2 ^ e % BB) = a + x * 2 ^ e % BB := by
  rw [shl_mod x h, Nat.mul_comm _ (2 ^ e), Nat.or_comm, ← Nat.two_pow_add_eq_or_of_lt ha, Nat.add_comm]
theorem shr_div (x : Nat) {e : Nat} (h : e ≤ 64) : x / 2 ^ (64 - e) = x * 2 ^ e / BB := by rw [← pw64 h, Nat.mul_div_mul_right _ _ (Nat.pow_pos (by decide))]
theorem shr_lt {x e : Nat} (h : e ≤ 64) (hx : x < BB) : x / 2 ^ (64 - e) < 2 ^ e := Nat.div_lt_of_lt_mul (by rw [pw64 h]; exact hx)
theorem shl_lt {a x e : Nat} (h : e ≤ 64) (ha : a < 2 ^ e) : a + x * 2 ^ e % BB < BB := by
  rw [shl_mod x h]
  have h1 := Nat.mod_lt x (show 0 < 2 ^ (64 - e) from Nat.pow_pos (by decide))
  have h2 := Nat.mul_le_mul_right (2 ^ e) (show x % 2 ^ (64 - e) + 1 ≤ 2 ^ (64 - e) by omega)
  have h3 := pw64 h
  rw [Nat.add_mul, Nat.one_mul] at h2
  generalize x % 2 ^ (64 - e) * 2 ^ e = y at *
  generalize 2 ^ (64 - e) * 2 ^ e = z at *
  omega
/-- What a row that is moved tells so far. -/
structure Shd (n e : Nat) (l g : Nat → Nat) (k : Nat) : Prop where
  lt : ∀ j, j < n + 1 → g j < BB
  zero : ∀ j, k < j → j < n + 1 → g j = 0
  top : g k < 2 ^ e
  vl : val (k + 1) g = val k l * 2 ^ e
theorem Shd.start (n e : Nat) (l : Nat → Nat) : Shd n e l (fun _ => 0) 0 :=
  ⟨fun _ _ => by decide, fun _ _ _ => rfl, Nat.pow_pos (by decide), by simp [val]⟩
theorem Shd.step {n e : Nat} {l g : Nat → Nat} {k : Nat} (h : Shd n e l g k) (he : e ≤ 64) (hk : k < n) (hl : l k < BB) :
    Shd n e l (upd (upd g k (g k + l k * 2 ^ e % BB)) (k + 1) (l k / 2 ^ (64 - e))) (k + 1) where
  lt := fun j hj => by
    unfold upd
    by_cases e1 : j = k + 1
    · rw [if_pos e1]; exact Nat.lt_of_le_of_lt (Nat.div_le_self _ _) hl
    · rw [if_neg e1]
      by_cases e2 : j = k
      · rw [if_pos e2]; exact shl_lt he h.top
      · rw [if_neg e2]; exact h.lt j hj
  zero := fun j hj hn => by
    unfold upd
    rw [if_neg (by omega), if_neg (by omega)]; exact h.zero j (by omega) hn
  top := by unfold upd; rw [if_pos rfl]; exact shr_lt he hl
  vl := by
    have h1 : val k (upd (upd g k (g k + l k * 2 ^ e % BB)) (k + 1) (l k / 2 ^ (64 - e))) = val k g := val_congr fun j hj => by
      unfold upd; rw [if_neg (by omega), if_neg (by omega)]
    have h2 : upd (upd g k (g k + l k * 2 ^ e % BB)) (k + 1) (l k / 2 ^ (64 - e)) k = g k + l k * 2 ^ e % BB := by unfold upd; rw [if_neg (by omega), if_pos rfl]
    have h3 : upd (upd g k (g k + l k * 2 ^ e % BB)) (k + 1) (l k / 2 ^ (64 - e)) (k + 1) = l k * 2 ^ e / BB := by unfold upd; rw [if_pos rfl, shr_div _ he]
    have h4 := h.vl
    rw [val_succ] at h4
    rw [val_succ, val_succ, h1, h2, h3, val_succ, Nat.add_mul, pw_succ]
    have h5 := Nat.div_add_mod (l k * 2 ^ e) BB
    generalize l k * 2 ^ e % BB = a at *
    generalize l k * 2 ^ e / BB = b at *
    have h6 : b * (BB ^ k * BB) = BB * b * BB ^ k := by rw [Nat.mul_comm (BB ^ k), ← Nat.mul_assoc, Nat.mul_comm b]
    rw [h6, Nat.add_mul (val k l), Nat.mul_right_comm (l k), ← h5, Nat.add_mul, ← h4]
    omega
/-- Where nothing goes over. -/
theorem Shd.step0 {n : Nat} {l g : Nat → Nat} {k : Nat} (h : Shd n 0 l g k) (hk : k < n) (hl : l k < BB) : Shd n 0 l (upd g k (g k + l k * 2 ^ 0 % BB)) (k + 1) := by
  have h1 := h.step (by omega) hk hl
  have e : upd (upd g k (g k + l k * 2 ^ 0 % BB)) (k + 1) (l k / 2 ^ (64 - 0)) = upd g k (g k + l k * 2 ^ 0 % BB) := by
    funext j
    unfold upd
    by_cases e1 : j = k + 1
    · rw [if_pos e1, if_neg (by omega), e1, h.zero (k + 1) (by omega) (by omega)]
      exact Nat.div_eq_of_lt (by unfold BB at hl; omega)
    · rw [if_neg e1]
  rw [e] at h1; exact h1
theorem Shd.stepZ {n e : Nat} {l g : Nat → Nat} {k : Nat} (h : Shd n e l g k) (he : e = 0) (hk : k < n) (hl : l k < BB) : Shd n e l (upd g k (g k + l k * 2 ^ e % BB)) (k + 1) := by
  subst he; exact h.step0 hk hl
/-! ### .. and back -/
theorem back_limb {U e i : Nat} (he : e ≤ 63) : U / 2 ^ e / BB ^ i % BB = U / BB ^ i % BB / 2 ^ e + U / BB ^ (i + 1) % BB * 2 ^ (64 - e) % BB := by
  have h1 : U / 2 ^ e / BB ^ i = U / BB ^ i / 2 ^ e := by rw [Nat.div_div_eq_div_mul, Nat.div_div_eq_div_mul, Nat.mul_comm]
  have h2 : U / BB ^ (i + 1) = U / BB ^ i / BB := by rw [pw_succ, Nat.div_div_eq_div_mul]
  rw [h1, h2]
  generalize U / BB ^ i = t
  have hp : 0 < 2 ^ e := Nat.pow_pos (by decide)
  have h64 := pw64 (show e ≤ 64 by omega)
  have h3 := Nat.div_add_mod t BB
  have hm := Nat.mod_lt t (show 0 < BB by decide)
  generalize t % BB = a at *
  generalize t / BB = b at *
  have h4 : t / 2 ^ e = b * 2 ^ (64 - e) + a / 2 ^ e := by
    rw [← h3, ← h64, Nat.mul_comm (2 ^ (64 - e)), Nat.mul_assoc, Nat.mul_add_div hp, Nat.mul_comm b]
  have h5 : a / 2 ^ e < 2 ^ (64 - e) := Nat.div_lt_of_lt_mul (by rw [Nat.mul_comm, h64]; exact hm)
  have h6 : b * 2 ^ (64 - e) % BB = b % 2 ^ e * 2 ^ (64 - e) := by rw [← h64, Nat.mul_comm (2 ^ (64 - e)), Nat.mul_mod_mul_right]
  have h7 : b % BB * 2 ^ (64 - e) % BB = b * 2 ^ (64 - e) % BB := by rw [Nat.mod_mul_mod]
  have h8 : b % 2 ^ e * 2 ^ (64 - e) + a / 2 ^ e < BB := by
    have := Nat.mul_le_mul_right (2 ^ (64 - e)) (show b % 2 ^ e + 1 ≤ 2 ^ e from Nat.mod_lt _ hp)
    rw [Nat.add_mul, Nat.one_mul, Nat.mul_comm (2 ^ e), h64] at this
    omega
  rw [h4, h7, Nat.add_mod, h6, Nat.mod_eq_of_lt (show a / 2 ^ e < BB from Nat.lt_of_le_of_lt (Nat.div_le_self _ _) hm), Nat.mod_eq_of_lt h8, Nat.add_comm]
theorem back_or {x y e : Nat} (he : e ≤ 63) (he0 : 0 < e) (hx : x < BB) : x / 2 ^ e ||| (y * 2 ^ (64 - e) % BB) = x / 2 ^ e + y * 2 ^ (64 - e) % BB :=
  shl_or (by omega) (Nat.div_lt_of_lt_mul (by rw [Nat.mul_comm, pw64 (by omega)]; exact hx))
end Go.Proofs.YtnkbhmonceiocaaDoor
