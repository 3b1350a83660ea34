/-
  The plain laws behind a long division: no program stands in it.
-/
import Derived.Test.YtnkbhmonceiocaaDoorShiftP
namespace Go.Proofs.YtnkbhmonceiocaaDoor
open Go Go.RowKit
theorem val_add (u : Nat → Nat) (i : Nat) : ∀ (k : Nat), val (i + k) u = val i u + val k (sh u i) * BB ^ i
  | 0 => by simp [val]
  | k + 1 => by
    rw [← Nat.add_assoc, val_succ, val_add u i k, val_succ, Nat.add_mul, pw_add, Nat.mul_assoc, Nat.mul_comm (BB ^ k)]
    show _ + u (i + k) * _ = _ + (_ + u (i + k) * _)
    omega
structure Lg (n m XX V : Nat) (k : Nat) (u q : Nat → Nat) : Prop where
  lt : ∀ j, j < n + 1 → u j < BB
  eq : val (k + m) u + V * val 16 q = XX
  small : val (k + m) u < V * BB ^ k
  qz : ∀ j, j < k → q j = 0
  qlt : ∀ j, j < 16 → q j < BB
  hi : ∀ j, k + m ≤ j → j < n + 1 → u j = 0
theorem val_zeros : ∀ (n : Nat), val n (fun _ => 0) = 0
  | 0 => rfl
  | n + 1 => by rw [val_succ, val_zeros n]; simp
theorem Lg.start {n m XX V : Nat} {u : Nat → Nat} (hm : m ≤ n) (hlt : ∀ j, j < n + 1 → u j < BB) (hX : val (n + 1) u = XX) (hs : XX < V * BB ^ (n - m + 1)) : Lg n m XX V (n - m + 1) u (fun _ => 0) where
  lt := hlt
  eq := by rw [show n - m + 1 + m = n + 1 by omega, hX, val_zeros]; omega
  small := by rw [show n - m + 1 + m = n + 1 by omega, hX]; exact hs
  qz := fun _ _ => rfl
  qlt := fun _ _ => by decide
  hi := fun j h1 h2 => by omega
theorem Lg.top {n m XX V i : Nat} {u q : Nat → Nat} (h : Lg n m XX V (i + 1) u q) : val (m + 1) (sh u i) < V * BB := by
  have h1 := h.small
  rw [show i + 1 + m = i + (m + 1) by omega, val_add, pw_succ, Nat.mul_comm (BB ^ i), ← Nat.mul_assoc] at h1
  exact Nat.lt_of_mul_lt_mul_right (Nat.lt_of_le_of_lt (Nat.le_add_left _ _) h1)
theorem top_zero {m : Nat} {g : Nat → Nat} {V : Nat} (h : val (m + 1) g < V) (hV : V ≤ BB ^ m) : g m = 0 := by
  rw [val_succ] at h
  rcases Nat.eq_zero_or_pos (g m) with e | e
  · exact e
  · have := Nat.mul_le_mul_right (BB ^ m) e
    omega
theorem Lg.step {n m XX V i : Nat} {u u' q : Nat → Nat} (h : Lg n m XX V (i + 1) u q) (hi : i < 16) (hin : i ≤ n) (hV : 0 < V) (hVm : V ≤ BB ^ m) (hlt : ∀ j, j < n + 1 → u' j < BB) (hout : ∀ j, j < i ∨ i + m < j → u' j = u j)
    (hr : val (m + 1) (sh u' i) = val (m + 1) (sh u i) % V) : Lg n m XX V i u' (upd q i (val (m + 1) (sh u i) / V)) := by
  have ht := h.top
  have hmod := Nat.mod_lt (val (m + 1) (sh u i)) hV
  have h0 : sh u' i m = 0 := top_zero (by rw [hr]; exact hmod) hVm
  have h1 : val m (sh u' i) = val (m + 1) (sh u i) % V := by rw [← hr, val_succ, h0]; omega
  have h2 : val i u' = val i u := val_congr fun j hj => hout j (.inl hj)
  have h3 := h.eq
  have h4 := val_upd (n := 16) (j := i) (v := val (m + 1) (sh u i) / V) (g := q) hi
  rw [h.qz i (by omega), Nat.zero_mul, Nat.add_zero] at h4
  refine ⟨hlt, ?_, ?_, ?_, ?_, ?_⟩
  · rw [val_add u' i m, h1, h2, h4, Nat.mul_add, ← h3, show i + 1 + m = i + (m + 1) by omega, val_add u i (m + 1)]
    have h5 := Nat.div_add_mod (val (m + 1) (sh u i)) V
    generalize val (m + 1) (sh u i) / V = a at *
    generalize val (m + 1) (sh u i) % V = b at *
    rw [← h5, Nat.add_mul, Nat.mul_assoc]
    omega
  · rw [val_add, h1, h2]
    have h5 : val i u < BB ^ i := val_lt fun j hj => h.lt j (by omega)
    have h6 := Nat.mul_le_mul_right (BB ^ i) (show val (m + 1) (sh u i) % V + 1 ≤ V by omega)
    rw [Nat.add_mul, Nat.one_mul] at h6
    omega
  · intro j hj
    unfold upd
    rw [if_neg (by omega)]
    exact h.qz j (by omega)
  · intro j hj
    unfold upd
    split
    · exact Nat.div_lt_of_lt_mul ht
    · exact h.qlt j hj
  · intro j h6 h7
    by_cases e : j = i + m
    · subst e; exact h0
    · rw [hout j (.inr (by omega))]; exact h.hi j (by omega) h7
theorem Lg.fin {n m X Y e : Nat} {u q : Nat → Nat} (h : Lg n m (X * 2 ^ e) (Y * 2 ^ e) 0 u q) (hY : 0 < Y) : val 16 q = X / Y ∧ val m u = X % Y * 2 ^ e := by
  have h1 := h.eq
  have h2 := h.small
  rw [Nat.zero_add] at h1 h2
  rw [Nat.pow_zero, Nat.mul_one] at h2
  have hp : 0 < 2 ^ e := Nat.pow_pos (by decide)
  have h3 : val 16 q = X * 2 ^ e / (Y * 2 ^ e) := by
    rw [← h1, Nat.add_mul_div_left _ _ (Nat.mul_pos hY hp), Nat.div_eq_of_lt h2, Nat.zero_add]
  have h4 : val m u = X * 2 ^ e % (Y * 2 ^ e) := by
    rw [← h1, Nat.add_mul_mod_self_left, Nat.mod_eq_of_lt h2]
  rw [Nat.mul_div_mul_right _ _ hp] at h3
  rw [Nat.mul_mod_mul_right] at h4
  exact ⟨h3, h4⟩
/-- The divisor that is moved so that its highest bit is 1. -/
theorem norm_div {m e Y : Nat} {y : Nat → Nat} (hm : 1 ≤ m) (hY : val m y = Y) (hlt : ∀ j, j < m → y j < BB) (he : e ≤ 63) (h1 : 2 ^ 63 ≤ y (m - 1) * 2 ^ e) (h2 : y (m - 1) * 2 ^ e < BB) : 2 ^ 63 * BB ^ (m - 1) ≤ Y * 2 ^ e ∧ Y * 2 ^ e < BB ^ m := by
  obtain ⟨k, rfl⟩ : ∃ k, m = k + 1 := ⟨m - 1, by omega⟩
  rw [Nat.add_sub_cancel] at *
  have h3 : val k y < BB ^ k := val_lt fun j hj => hlt j (by omega)
  rw [val_succ] at hY
  subst hY
  constructor
  · have h4 := Nat.mul_le_mul_right (BB ^ k) h1
    have h5 : (val k y + y k * BB ^ k) * 2 ^ e = val k y * 2 ^ e + y k * 2 ^ e * BB ^ k := by rw [Nat.add_mul, Nat.mul_right_comm]
    omega
  · have h64 := pw64 (show e ≤ 64 by omega)
    have h4 : y k < 2 ^ (64 - e) := by
      rw [← h64] at h2
      exact Nat.lt_of_mul_lt_mul_right h2
    have h5 := Nat.mul_le_mul_right (BB ^ k) (show y k + 1 ≤ 2 ^ (64 - e) by omega)
    rw [Nat.add_mul, Nat.one_mul] at h5
    have h6 : val k y + y k * BB ^ k < 2 ^ (64 - e) * BB ^ k := by omega
    have h7 := (Nat.mul_lt_mul_right (show 0 < 2 ^ e from Nat.pow_pos (by decide))).2 h6
    rw [pw_succ]
    have h8 : 2 ^ (64 - e) * BB ^ k * 2 ^ e = BB ^ k * BB := by rw [Nat.mul_right_comm, h64, Nat.mul_comm]
    omega
theorem top_ge {m V : Nat} {v : Nat → Nat} (hm : 1 ≤ m) (hv : val m v = V) (hlt : ∀ j, j < m → v j < BB) (h : 2 ^ 63 * BB ^ (m - 1) ≤ V) : 2 ^ 63 ≤ v (m - 1) := by
  obtain ⟨k, rfl⟩ : ∃ k, m = k + 1 := ⟨m - 1, by omega⟩
  rw [Nat.add_sub_cancel] at *
  have h3 : val k v < BB ^ k := val_lt fun j hj => hlt j (by omega)
  rw [val_succ] at hv
  refine Classical.byContradiction fun hn => ?_
  have h4 := Nat.mul_le_mul_right (BB ^ k) (show v k + 1 ≤ 2 ^ 63 by omega)
  rw [Nat.add_mul, Nat.one_mul] at h4
  generalize 2 ^ 63 * BB ^ k = z at *
  omega
/-- What a guess needs and what it is good for. -/
theorem guess_le {m V : Nat} {v w : Nat → Nat} (hm : 1 ≤ m) (hv : val m v = V) (hlt : ∀ j, j < m → v j < BB) (hW : val (m + 1) w < V * BB) : w m ≤ v (m - 1) := by
  obtain ⟨k, rfl⟩ : ∃ k, m = k + 1 := ⟨m - 1, by omega⟩
  rw [Nat.add_sub_cancel] at *
  have h3 : val k v < BB ^ k := val_lt fun j hj => hlt j (by omega)
  rw [val_succ] at hv hW
  have h4 : V < (v k + 1) * BB ^ k := by rw [Nat.add_mul, Nat.one_mul]; omega
  have h5 : w (k + 1) * BB ^ (k + 1) < (v k + 1) * BB ^ (k + 1) := by
    have h6 := (Nat.mul_lt_mul_right (show 0 < BB by decide)).2 h4
    rw [Nat.mul_assoc, ← pw_succ] at h6
    omega
  have := Nat.lt_of_mul_lt_mul_right h5
  omega
theorem guess_fine {m V q : Nat} {v w : Nat → Nat} (hm : 2 ≤ m) (hv : val m v = V) (hvl : ∀ j, j < m → v j < BB) (hwl : ∀ j, j < m + 1 → w j < BB) (hW : val (m + 1) w < V * BB) (h1 : 1 ≤ v (m - 1))
    (hq : GuessOk (w m) (w (m - 1)) (w (m - 2)) (v (m - 1)) (v (m - 2)) q) : val (m + 1) w / V ≤ q ∧ q ≤ val (m + 1) w / V + 1 := by
  obtain ⟨k, rfl⟩ : ∃ k, m = k + 2 := ⟨m - 2, by omega⟩
  rw [show k + 2 - 1 = k + 1 by omega, show k + 2 - 2 = k by omega] at *
  obtain ⟨hqb, ha, hb⟩ := hq
  have hlw : val k w < BB ^ k := val_lt fun j hj => hwl j (by omega)
  have hlv : val k v < BB ^ k := val_lt fun j hj => hvl j (by omega)
  refine guess_bounds (P := BB ^ k) (U3 := (w (k + 2) * BB + w (k + 1)) * BB + w k) (V2 := v (k + 1) * BB + v k) (lw := val k w) (lv := val k v) ?_ hlw ?_ hlv hW ?_ hqb ha hb
  · have e1 : w (k + 1) * BB ^ (k + 1) = w (k + 1) * BB * BB ^ k := by rw [pw_succ, Nat.mul_comm (BB ^ k), Nat.mul_assoc]
    have e2 : w (k + 2) * BB ^ (k + 2) = w (k + 2) * BB * BB * BB ^ k := by rw [pw_succ, pw_succ, Nat.mul_assoc (BB ^ k), Nat.mul_comm (BB ^ k), Nat.mul_assoc, Nat.mul_assoc, Nat.mul_assoc]
    rw [val_succ, val_succ, val_succ, e1, e2, Nat.add_mul, Nat.add_mul, Nat.add_mul]
    omega
  · have e1 : v (k + 1) * BB ^ (k + 1) = v (k + 1) * BB * BB ^ k := by rw [pw_succ, Nat.mul_comm (BB ^ k), Nat.mul_assoc]
    rw [← hv, val_succ, val_succ, e1, Nat.add_mul]
    omega
  · have h5 := Nat.mul_le_mul_right BB h1
    rw [Nat.one_mul] at h5
    exact Nat.le_trans h5 (Nat.le_add_right _ _)
/-! ### The sizes -/
theorem val_nat {X : Nat} (hX : X < BB ^ 16) : val 16 (limb (X : Int)) = X := by
  have h := val_limb 16 (X : Int)
  rw [← Int.natCast_emod, Nat.mod_eq_of_lt hX] at h
  exact Int.ofNat.inj h
theorem nl_facts {X n : Nat} (hX : X < BB ^ 16) (h : lcnt 16 (limb (X : Int)) = n) : n ≤ 16 ∧ val n (limb (X : Int)) = X ∧ X < BB ^ n := by
  subst h
  have h1 : val (lcnt 16 (limb (X : Int))) (limb (X : Int)) = X := by rw [val_lcnt, val_nat hX]
  refine ⟨lcnt_le _ _, h1, ?_⟩
  have h2 := val_lt (n := lcnt 16 (limb (X : Int))) (g := limb (X : Int)) fun i _ => limb_lt _ _
  rw [h1] at h2
  exact h2
theorem nl_low {X n : Nat} (hX : X < BB ^ 16) (h : lcnt 16 (limb (X : Int)) = n) (h0 : n ≠ 0) : BB ^ (n - 1) ≤ X := by
  subst h
  have := lcnt_pos h0
  rw [val_nat hX] at this
  exact this
theorem nl_top {X n : Nat} (h : lcnt 16 (limb (X : Int)) = n) (h0 : n ≠ 0) : 0 < limb (X : Int) (n - 1) := by
  subst h
  exact Nat.pos_of_ne_zero (lcnt_top h0)
theorem nl_some {Y m : Nat} (hY : Y < BB ^ 16) (h : lcnt 16 (limb (Y : Int)) = m) (h0 : 0 < Y) : m ≠ 0 := fun e => by
  have := (nl_facts hY h).2.1
  rw [e] at this
  have h2 : (0 : Nat) = Y := this
  omega
theorem nl_small {X Y n m : Nat} (hX : X < BB ^ 16) (hY : Y < BB ^ 16) (hn : lcnt 16 (limb (X : Int)) = n) (hm : lcnt 16 (limb (Y : Int)) = m) (h : n < m) : X < Y := by
  have h1 := (nl_facts hX hn).2.2
  have h2 := nl_low hY hm (by omega)
  have h3 := Nat.pow_le_pow_right (show 0 < BB by decide) (show n ≤ m - 1 by omega)
  exact Nat.lt_of_lt_of_le h1 (Nat.le_trans h3 h2)
theorem lg_small {X V n m e : Nat} (hm : 1 ≤ m) (hmn : m ≤ n) (he : e ≤ 63) (hX : X < BB ^ n) (hV : 2 ^ 63 * BB ^ (m - 1) ≤ V) : X * 2 ^ e < V * BB ^ (n - m + 1) := by
  have h1 := (Nat.mul_lt_mul_right (show 0 < 2 ^ e from Nat.pow_pos (by decide))).2 hX
  have h2 := Nat.mul_le_mul_left (BB ^ n) (Nat.pow_le_pow_right (show 0 < 2 by decide) he)
  have h3 := Nat.mul_le_mul_right (BB ^ (n - m + 1)) hV
  rw [Nat.mul_assoc, ← pw_add, show m - 1 + (n - m + 1) = n by omega, Nat.mul_comm] at h3
  exact Nat.lt_of_lt_of_le (Nat.lt_of_lt_of_le h1 h2) h3
theorem limb_hi {R m j : Nat} (hR : R < BB ^ m) (hj : m ≤ j) : limb (R : Int) j = 0 := by
  rw [limb_nat, Nat.div_eq_of_lt (Nat.lt_of_lt_of_le hR (Nat.pow_le_pow_right (by decide) hj)), Nat.zero_mod]
theorem back_ok {R e m i : Nat} {u : Nat → Nat} (hu : val m u = R * 2 ^ e) (hz : u m = 0) (hlt : ∀ j, j < m + 1 → u j < BB) (hi : i < m) (he : e ≤ 63) : limb (R : Int) i = u i / 2 ^ e + u (i + 1) * 2 ^ (64 - e) % BB := by
  have h1 : val (m + 1) u = R * 2 ^ e := by rw [val_succ, hz, hu]; omega
  have h2 : ∀ j, j < m + 1 → u j = R * 2 ^ e / BB ^ j % BB := fun j hj => by
    rw [← limb_val hlt j hj, h1, limb_nat]
  have h3 := back_limb (U := R * 2 ^ e) (i := i) he
  rw [Nat.mul_div_cancel _ (Nat.pow_pos (by decide)), ← h2 i (by omega), ← h2 (i + 1) (by omega)] at h3
  rw [limb_nat]; exact h3
theorem back_ok0 {R e m i : Nat} {u : Nat → Nat} (h0 : e = 0) (hu : val m u = R * 2 ^ e) (hlt : ∀ j, j < m + 1 → u j < BB) (hi : i < m) : limb (R : Int) i = u i / 2 ^ e := by
  subst h0
  rw [Nat.pow_zero, Nat.mul_one] at hu
  rw [← hu, limb_val (fun j hj => hlt j (by omega)) i hi, Nat.pow_zero, Nat.div_one]
theorem Lg.low {n m XX V : Nat} {u q : Nat → Nat} (h : Lg n m XX V 0 u q) (hm : m ≤ n) : u m = 0 := h.hi m (by omega) (by omega)
theorem wd_nat {g : Nat → Nat} {x : Nat} (hg : ∀ i, i < 16 → g i < BB) (h : val 16 g = x) : AF 16 g = Wd (x : Int) := by
  subst h; exact Wd_of hg rfl
theorem wd_low {g : Nat → Nat} {R m : Nat} (hm : m ≤ 16) (hR : R < BB ^ m) (h1 : ∀ j, j < m → g j = limb (R : Int) j) (h2 : ∀ j, m ≤ j → g j = 0) : AF 16 g = Wd (R : Int) := AF_congr fun j _ => by
  rcases Nat.lt_or_ge j m with h | h
  · exact h1 j h
  · rw [h2 j h, limb_hi hR h]
theorem one_limb {Y : Nat} (hY : Y < BB ^ 16) (h : lcnt 16 (limb (Y : Int)) = 1) : limb (Y : Int) 0 = Y := by
  have := (nl_facts hY h).2.1
  rw [val_succ] at this
  simpa [val] using this
end Go.Proofs.YtnkbhmonceiocaaDoor
