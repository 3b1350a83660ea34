/-
  The plain laws behind taking a multiple of a row of limbs off another: no program stands in it.
-/
import Derived.Test.YtnkbhmonceiocaaDoorGuessP
namespace Go.Proofs.YtnkbhmonceiocaaDoor
open Go Go.RowKit
/-- The row from a place on. -/
def sh (g : Nat → Nat) (o : Nat) : Nat → Nat := fun j => g (o + j)
theorem sh_upd {g : Nat → Nat} {o i v : Nat} : ∀ j, j < i → sh (upd g (o + i) v) o j = sh g o j := fun j hj => by
  unfold sh upd; rw [if_neg (by omega)]
theorem val_sh_upd {g : Nat → Nat} {o i v : Nat} : val (i + 1) (sh (upd g (o + i) v) o) = val i (sh g o) + v * BB ^ i := by
  rw [val_succ, val_congr (fun j hj => sh_upd j hj)]
  congr 1
  unfold sh upd
  rw [if_pos rfl]
theorem sub_limb {x lo br : Nat} (hx : x < BB) (hl : lo < BB) (hb : br ≤ 1) : (x + BB - lo - br) % BB + lo + br = x + (if x < lo + br then 1 else 0) * BB := by
  unfold BB at *
  split <;> omega
theorem take_step {g v w : Nat → Nat} {o i q c br lo c' br' gi A : Nat} (h : val i (sh g o) + q * val i v = A + (br + c) * BB ^ i) (hp : q * v i + c = c' * BB + lo) (hg : gi + lo + br = w i + br' * BB) :
    val (i + 1) (sh (upd g (o + i) gi) o) + q * val (i + 1) v = (A + w i * BB ^ i) + (br' + c') * BB ^ (i + 1) := by
  rw [val_sh_upd, val_succ, Nat.mul_add, pw_succ]
  generalize BB ^ i = P at *
  have e1 : q * (v i * P) + c * P = c' * BB * P + lo * P := by rw [← Nat.mul_assoc, ← Nat.add_mul, hp, Nat.add_mul]
  have e2 : gi * P + lo * P + br * P = w i * P + br' * BB * P := by rw [← Nat.add_mul, ← Nat.add_mul, hg, Nat.add_mul]
  have e3 : (br' + c') * (P * BB) = br' * BB * P + c' * BB * P := by rw [Nat.mul_comm P BB, ← Nat.mul_assoc, Nat.add_mul, Nat.add_mul]
  have e4 : (br + c) * P = br * P + c * P := Nat.add_mul _ _ _
  rw [e3]
  rw [e4] at h
  omega
theorem back_step {g v w : Nat → Nat} {o i c c' gi A : Nat} (h : val i (sh g o) + c * BB ^ i = A + val i v) (hg : w i + v i + c = c' * BB + gi) :
    val (i + 1) (sh (upd g (o + i) gi) o) + c' * BB ^ (i + 1) = (A + w i * BB ^ i) + val (i + 1) v := by
  rw [val_sh_upd, val_succ, pw_succ]
  generalize BB ^ i = P at *
  have e1 : w i * P + v i * P + c * P = c' * BB * P + gi * P := by rw [← Nat.add_mul, ← Nat.add_mul, hg, Nat.add_mul]
  have e3 : c' * (P * BB) = c' * BB * P := by rw [Nat.mul_comm P BB, ← Nat.mul_assoc]
  rw [e3]
  omega
theorem guess_bounds {W V P U3 V2 lw lv q : Nat} (hU : W = U3 * P + lw) (hlw : lw < P) (hV : V = V2 * P + lv) (hlv : lv < P) (hWV : W < V * BB) (hV2 : BB ≤ V2) (hq : q < BB) (h1 : q * V2 ≤ U3)
    (h2 : q = BB - 1 ∨ U3 < (q + 1) * V2) : W / V ≤ q ∧ q ≤ W / V + 1 := by
  have hPp : 0 < P := by omega
  have hVp : 0 < V := by
    have := Nat.mul_le_mul_right P (show 1 ≤ V2 by unfold BB at hV2; omega)
    omega
  constructor
  · rcases h2 with h2 | h2
    · have := Nat.div_lt_of_lt_mul hWV
      omega
    · refine Nat.le_of_lt_succ (Nat.div_lt_of_lt_mul ?_)
      have h3 := Nat.mul_le_mul_right P (show U3 + 1 ≤ (q + 1) * V2 by omega)
      rw [Nat.add_mul, Nat.one_mul] at h3
      have h4 : V * (q + 1) = (q + 1) * V2 * P + (q + 1) * lv := by rw [hV, Nat.mul_comm, Nat.mul_add, Nat.mul_assoc]
      rw [Nat.succ_eq_add_one, h4, hU]
      generalize (q + 1) * V2 * P = z at *
      generalize (q + 1) * lv = y at *
      generalize U3 * P = x at *
      omega
  · rcases Nat.eq_zero_or_pos q with e | e
    · rw [e]; exact Nat.zero_le _
    · have h3 : q - 1 ≤ W / V := by
        rw [Nat.le_div_iff_mul_le hVp]
        obtain ⟨k, rfl⟩ : ∃ k, q = k + 1 := ⟨q - 1, by omega⟩
        rw [Nat.add_sub_cancel]
        have h4 : k * V2 + k ≤ U3 := by
          rw [Nat.add_mul, Nat.one_mul] at h1
          omega
        have h5 := Nat.mul_le_mul_right P h4
        have h6 := Nat.mul_le_mul_left k (Nat.le_of_lt hlv)
        have h7 : k * V = k * V2 * P + k * lv := by rw [hV, Nat.mul_add, Nat.mul_assoc]
        rw [Nat.add_mul] at h5
        omega
      exact Nat.le_add_of_sub_le h3
/-- Nothing was borrowed: the guess was right. -/
theorem take_fin0 {W V q r : Nat} (hV : 0 < V) (hlo : W / V ≤ q) (h : r + q * V = W) : q = W / V ∧ r = W % V := by
  have h1 : q ≤ W / V := by rw [Nat.le_div_iff_mul_le hV]; omega
  have h2 : q = W / V := Nat.le_antisymm h1 hlo
  refine ⟨h2, ?_⟩
  have h3 := Nat.div_add_mod W V
  rw [← h2, Nat.mul_comm] at h3
  omega
/-- Something was: it was one too many. -/
theorem take_fin1 {W V q r1 r c P : Nat} (hV : 0 < V) (hhi : q ≤ W / V + 1) (hr1 : r1 < P) (h : r1 + q * V = W + P) (hr : r < P) (hb : r + c * P = r1 + V) (hVP : V ≤ P) : 1 ≤ q ∧ q - 1 = W / V ∧ r = W % V := by
  have h0 : W < q * V := by omega
  have h1 : W / V < q := by rw [Nat.div_lt_iff_lt_mul hV]; exact h0
  have h2 : 1 ≤ q := Nat.lt_of_le_of_lt (Nat.zero_le _) h1
  have h3 : q - 1 = W / V := Nat.le_antisymm (Nat.sub_le_of_le_add hhi) (Nat.le_pred_of_lt h1)
  refine ⟨h2, h3, ?_⟩
  have h4 := Nat.div_add_mod W V
  have h5 := Nat.mod_lt W hV
  rw [← h3, Nat.mul_comm] at h4
  have h6 : q * V = (q - 1) * V + V := by
    obtain ⟨k, rfl⟩ : ∃ k, q = k + 1 := ⟨q - 1, by omega⟩
    rw [Nat.add_sub_cancel, Nat.add_mul, Nat.one_mul]
  have h7 : r + c * P = W % V + P := by omega
  rcases Nat.lt_or_ge c 2 with hc | hc
  · rcases Nat.lt_or_ge c 1 with hc1 | hc1
    · have : c = 0 := by omega
      subst this
      rw [Nat.zero_mul] at h7
      omega
    · have : c = 1 := by omega
      subst this
      rw [Nat.one_mul] at h7
      omega
  · have := Nat.mul_le_mul_right P hc
    omega
theorem take_step1 {h v w : Nat → Nat} {o k q c br : Nat} (hx : h (o + k) < BB) (hb : br ≤ 1) (hw : h (o + k) = w k) (hs : val k (sh h o) + q * val k v = val k w + (br + c) * BB ^ k) :
    val (k + 1) (sh (upd h (o + k) ((h (o + k) + BB - (q * v k + c) % BB - br) % BB)) o) + q * val (k + 1) v = val (k + 1) w + ((if h (o + k) < (q * v k + c) % BB + br then 1 else 0) + (q * v k + c) / BB) * BB ^ (k + 1) := by
  have h1 := sub_limb hx (Nat.mod_lt (q * v k + c) (show 0 < BB by decide)) hb
  exact take_step (w := w) hs (Nat.div_add_mod' _ _).symm (by rw [← hw]; exact h1)
theorem last_step {h v w : Nat → Nat} {o m q c br : Nat} (hx : h (o + m) < BB) (hc : c < BB) (hb : br ≤ 1) (hw : h (o + m) = w m) (hs : val m (sh h o) + q * val m v = val m w + (br + c) * BB ^ m) :
    val (m + 1) (sh (upd h (o + m) ((h (o + m) + BB - c - br) % BB)) o) + q * val m v = val (m + 1) w + (if h (o + m) < c + br then 1 else 0) * BB ^ (m + 1) := by
  have h1 := sub_limb hx hc hb
  rw [val_sh_upd, val_succ, pw_succ, ← hw]
  generalize (h (o + m) + BB - c - br) % BB = gi at *
  generalize (if h (o + m) < c + br then 1 else 0) = br' at *
  generalize BB ^ m = P at *
  have e2 : gi * P + c * P + br * P = h (o + m) * P + br' * BB * P := by rw [← Nat.add_mul, ← Nat.add_mul, ← Nat.add_mul, ← h1]
  have e3 : br' * (P * BB) = br' * BB * P := by rw [Nat.mul_comm P BB, ← Nat.mul_assoc]
  rw [Nat.add_mul] at hs
  rw [e3]
  omega
theorem take_out {g h : Nat → Nat} {o k x : Nat} (hh : ∀ j, j < o ∨ o + k ≤ j → h j = g j) : ∀ j, j < o ∨ o + (k + 1) ≤ j → upd h (o + k) x j = g j := fun j hj => by
  unfold upd; rw [if_neg (by omega)]; exact hh j (by omega)
theorem back_last {h2 h1 v : Nat → Nat} {o m c2 : Nat} (hs : val m (sh h2 o) + c2 * BB ^ m = val m (sh h1 o) + val m v) (hm : h2 (o + m) = h1 (o + m)) :
    val (m + 1) (sh (upd h2 (o + m) ((h2 (o + m) + c2) % BB)) o) + (h2 (o + m) + c2) / BB * BB ^ (m + 1) = val (m + 1) (sh h1 o) + val m v := by
  rw [val_sh_upd, val_succ, pw_succ]
  show _ = val m (sh h1 o) + h1 (o + m) * BB ^ m + val m v
  rw [← hm]
  have h5 := Nat.div_add_mod (h2 (o + m) + c2) BB
  generalize (h2 (o + m) + c2) % BB = a at *
  generalize (h2 (o + m) + c2) / BB = b at *
  generalize BB ^ m = P at *
  have e3 : b * (P * BB) = BB * b * P := by rw [Nat.mul_comm P BB, ← Nat.mul_assoc, Nat.mul_comm b]
  have e4 : BB * b * P + a * P = h2 (o + m) * P + c2 * P := by rw [← Nat.add_mul, h5, Nat.add_mul]
  rw [e3]
  omega
theorem last_out {g h : Nat → Nat} {o m x : Nat} (hh : ∀ j, j < o ∨ o + m ≤ j → h j = g j) : ∀ j, j < o ∨ o + m < j → upd h (o + m) x j = g j := fun j hj => by
  unfold upd; rw [if_neg (by omega)]; exact hh j (by omega)
theorem val_sh_lt {f : Nat → Nat} {o m N : Nat} (hf : ∀ j, j < N → f j < BB) (ho : o + (m + 1) ≤ N) : val (m + 1) (sh f o) < BB ^ (m + 1) := val_lt fun i hi => hf (o + i) (by omega)
theorem val_le_pw {v : Nat → Nat} {m N : Nat} (hv : ∀ j, j < N → v j < BB) (hm : m ≤ N) : val m v ≤ BB ^ (m + 1) := by
  have h1 := val_lt (n := m) (g := v) fun i hi => hv i (by omega)
  have h2 := Nat.pow_le_pow_right (show 0 < BB by decide) (show m ≤ m + 1 by omega)
  omega
theorem carry_le {x y c : Nat} (hx : x < BB) (hy : y < BB) (hc : c ≤ 1) : (x + y + c) / BB ≤ 1 := by unfold BB at *; omega
theorem cut_out {g h : Nat → Nat} {o k x : Nat} (hh : ∀ j, j < o ∨ o + k ≤ j → h j = g j) : ∀ j, j < o ∨ o + (k + 1) ≤ j → upd h (o + k) x j = g j := take_out hh
end Go.Proofs.YtnkbhmonceiocaaDoor
