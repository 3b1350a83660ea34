/-
  Two limbs by one: bits.Div64, for every two limbs and every divisor above the higher one.
-/
import Derived.Test.YtnkbhmonceiocaaDoorWideD
import Derived.Test.YtnkbhmonceiocaaDoorDivP
namespace Go.Proofs.YtnkbhmonceiocaaDoor
open Go Go.RowKit
namespace FWideE
theorem ent64 (args : Array Value) (w : World) : (callFunc 64 args).run Tryd.prog w = .ok (.enter 64 args) w := enters_at Tryd.func64 (by kernel_rfl) rfl args w
theorem mixed : Tryd.prog.follows .mixedOrders = true := by kernel_rfl
theorem u3 : Tryd.prog.underlying 3 = some (.int .i64) := by kernel_rfl
theorem u68 : Tryd.prog.underlying 68 = some (.int .u64) := by kernel_rfl
end FWideE
open FWideE
theorem LZ_ok (y : Nat) (h0 : 0 < y) (hy : y < BB) (w0 : World) : Fn Tryd.prog 64 [.int .u64 (y : Nat)] w0 [] (fun v _ => v = .int .i64 ((lz y : Nat) : Int)) :=
  Calls.mono (Tryd.bits_LeadingZeros64 (y : Int) w0 (by omega) (by unfold BB at hy; omega)) fun e w' h => by
    obtain ⟨rfl, rfl⟩ := h
    refine ⟨Keeps.refl _ _, ?_⟩
    have := (lz_norm h0 hy).2.2.2
    rw [Int.toNat_natCast]
    exact ieq (by unfold lz; omega)

set_option maxRecDepth 20000 in
set_option maxHeartbeats 1000000 in
theorem Div64_ok  (h l y : Nat) (hl : l < BB) (hy : y < BB) (hh : h < y) (w0 : World) :
    Fn Tryd.prog 68 [.int .u64 ((h : Nat) : Int), .int .u64 ((l : Nat) : Int), .int .u64 ((y : Nat) : Int)] w0 [] (fun v _ => v = .tuple #[.int .u64 (((h * BB + l) / y : Nat) : Int), .int .u64 (((h * BB + l) % y : Nat) : Int)]) := by
  have hl' : l < 18446744073709551616 := hl
  have hy' : y < 18446744073709551616 := hy
  refine x_enter' (n := 135) Tryd.func68 rfl rfl (Nat.le_of_ble_eq_true rfl) fun a w st => ?_
  refine x_seq ?_
  refine x_region ?_
  refine xseg 2 st rfl ?_
  clear st a; intro a st
  refine x_nil ?_
  refine x_seq ?_
  refine x_seq ?_
  refine x_region ?_
  refine xseg 2 st rfl ?_
  clear st a; intro a st
  refine x_nil ?_
  refine x_condE st rfl (fun h1 => ?_) (fun h1 => ?_)
  · exact absurd h1 (by omega)
  · refine wp_skip ?_
    refine x_seq ?_
    refine x_seq ?_
    refine x_region ?_
    refine xseg 3 st rfl ?_
    clear st a; intro a st
    refine x_nil ?_
    refine x_condD st rfl (fun h3 => ?_) (fun h3 => ?_)
    · exact absurd h3 (by omega)
    · refine wp_skip ?_
      refine x_seq ?_
      refine x_seq ?_
      refine x_region ?_
      refine xseg 2 st rfl ?_
      clear st a; intro a st
      refine x_nil ?_
      refine x_condE st rfl (fun h5 => ?_) (fun h5 => ?_)
      · refine x_seq ?_
        refine x_draw st [] [.det (.int .u64 ((l : Nat) : Int)), .det (.int .u64 ((y : Nat) : Int)), .det (.int .u64 ((l / y : Nat) : Int)), .det (.int .u64 ((l : Nat) : Int)), .det (.int .u64 ((y : Nat) : Int)), .det (.int .u64 ((l % y : Nat) : Int)), .det (.int .u64 ((l / y : Nat) : Int)), .det (.int .u64 ((l % y : Nat) : Int))] mixed (by kernel_rfl)
          ⟨ob_p (Fi := [(1, .int .u64 ((l : Nat) : Int))]) (by kernel_rfl) rfl rfl ⟨by kernel_rfl, trivial⟩ rfl rfl,
            ob_p (Fi := [(2, .int .u64 ((y : Nat) : Int))]) (by kernel_rfl) rfl rfl ⟨by kernel_rfl, trivial⟩ rfl rfl,
            ob_run (Fi := [(28, .int .u64 ((l : Nat) : Int)), (29, .int .u64 ((y : Nat) : Int))]) (by kernel_rfl) rfl rfl ⟨by kernel_rfl, by kernel_rfl, trivial⟩ (fun a w st hk hxx w' => r_num (v := .int .u64 ((l / y : Nat) : Int)) st rfl rfl rfl (run_quoN (by omega) hl rfl _)),
            ob_p (Fi := [(1, .int .u64 ((l : Nat) : Int))]) (by kernel_rfl) rfl rfl ⟨by kernel_rfl, trivial⟩ rfl rfl,
            ob_p (Fi := [(2, .int .u64 ((y : Nat) : Int))]) (by kernel_rfl) rfl rfl ⟨by kernel_rfl, trivial⟩ rfl rfl,
            ob_run (Fi := [(31, .int .u64 ((l : Nat) : Int)), (32, .int .u64 ((y : Nat) : Int))]) (by kernel_rfl) rfl rfl ⟨by kernel_rfl, by kernel_rfl, trivial⟩ (fun a w st hk hxx w' => r_num (v := .int .u64 ((l % y : Nat) : Int)) st rfl rfl rfl (run_remN (by omega) rfl _)),
            ob_p (Fi := [(30, .int .u64 ((l / y : Nat) : Int))]) (by kernel_rfl) rfl rfl ⟨by kernel_rfl, trivial⟩ rfl rfl,
            ob_p (Fi := [(33, .int .u64 ((l % y : Nat) : Int))]) (by kernel_rfl) rfl rfl ⟨by kernel_rfl, trivial⟩ rfl rfl, trivial⟩ ?_
        intro a1 w1 hk1 st1 he
        clear hk1 st a w; revert st1 he; revert a1; revert w1; intro w a st he
        replace st := st.pickTo (F' := [(0, .int .u64 ((h : Nat) : Int)), (1, .int .u64 ((l : Nat) : Int)), (2, .int .u64 ((y : Nat) : Int)), (6, .int .u64 ((l / y : Nat) : Int)), (7, .int .u64 ((l % y : Nat) : Int)), (19, .int .u64 ((y : Nat) : Int)), (20, .bool (((y : Nat) : Int) == 0)), (22, .int .u64 ((y : Nat) : Int)), (23, .int .u64 ((h : Nat) : Int)), (24, .bool (decide (((y : Nat) : Int) ≤ ((h : Nat) : Int)))), (26, .int .u64 ((h : Nat) : Int)), (27, .bool (((h : Nat) : Int) == 0))]) [0, 1, 2, 6, 7, 19, 20, 22, 23, 24, 26, 27] (by kernel_rfl)
        clear he
        change wpList _ _ _ [] _ _
        refine x_nil ?_
        show NP _ _ _ _
        refine NP.normal ?_
        refine x_wpret ?_
        refine x_thenRet ?_
        exact x_retp st [.int .u64 ((l / y : Nat) : Int), .int .u64 ((l % y : Nat) : Int)] rfl ⟨rfl, rfl, trivial⟩ rfl (div64_zero h5)
      · refine wp_skip ?_
        refine x_seq ?_
        obtain ⟨hs, hY1, hY2, _⟩ := lz_norm (y := y) (by omega) hy
        obtain ⟨Y, hYe⟩ : ∃ Y, Y = y * 2 ^ lz y := ⟨_, rfl⟩
        rw [← hYe] at hY1 hY2
        have hY2' : Y < 18446744073709551616 := hY2
        have hY3 : 9223372036854775808 ≤ Y := hY1
        obtain ⟨v1, hv1⟩ : ∃ v, v = Y / 4294967296 := ⟨_, rfl⟩
        obtain ⟨v0, hv0⟩ : ∃ v, v = Y % 4294967296 := ⟨_, rfl⟩
        have hYs : v1 * 4294967296 + v0 = Y := by omega
        obtain ⟨u, hu⟩ : ∃ u, u = h * 2 ^ lz y + l / 2 ^ (64 - lz y) := ⟨_, rfl⟩
        have huY : u < Y := by rw [hu, hYe]; exact hi_lt hs hl hh
        replace hu : Hid (u = h * 2 ^ lz y + l / 2 ^ (64 - lz y)) := hu
        obtain ⟨n, hn⟩ : ∃ n, n = l * 2 ^ lz y % BB := ⟨_, rfl⟩
        have hnB : n < 18446744073709551616 := by rw [hn]; exact Nat.mod_lt _ (by decide)
        replace hn : Hid (n = l * 2 ^ lz y % BB) := hn
        obtain ⟨w1, hw1⟩ : ∃ v, v = n / 4294967296 := ⟨_, rfl⟩
        obtain ⟨w0', hw0⟩ : ∃ v, v = n % 4294967296 := ⟨_, rfl⟩
        have hh2 : Hid (h * 2 ^ lz y < BB) := Nat.lt_of_le_of_lt (Nat.mul_le_mul_right _ (Nat.le_of_lt hh)) (by rw [← hYe]; exact hY2)
        replace hYe : Hid (Y = y * 2 ^ lz y) := hYe
        have hw1b : w1 < 4294967296 := by omega
        have hw0b : w0' < 4294967296 := by omega
        have hwn : w1 * 4294967296 + w0' = n := by rw [hw1, hw0]; exact Nat.div_add_mod' n 4294967296
        have hy0 : 0 < y := by omega
        have hYp : 0 < Y := by omega
        obtain ⟨Q1, hQ1⟩ : ∃ Q, Q = (u * 4294967296 + w1) / Y := ⟨_, rfl⟩
        have hU1 : u * 4294967296 + w1 < (v1 * 4294967296 + v0) * 4294967296 := dig_u hYs huY hw1b
        have hQ1b : Q1 < 4294967296 := by rw [hQ1]; exact dig_b hYs hU1
        obtain ⟨u2, hu2⟩ : ∃ u2, u2 = (u * 4294967296 + w1) % Y := ⟨_, rfl⟩
        have hu2Y : u2 < Y := by rw [hu2]; exact Nat.mod_lt _ hYp
        obtain ⟨Q0, hQ0⟩ : ∃ Q, Q = (u2 * 4294967296 + w0') / Y := ⟨_, rfl⟩
        have hU0 : u2 * 4294967296 + w0' < (v1 * 4294967296 + v0) * 4294967296 := dig_u hYs hu2Y hw0b
        have hQ0b : Q0 < 4294967296 := by rw [hQ0]; exact dig_b hYs hU0
        obtain ⟨r0, hr0⟩ : ∃ r, r = (u2 * 4294967296 + w0') % Y := ⟨_, rfl⟩
        replace hQ1 : Hid (Q1 = (u * 4294967296 + w1) / Y) := hQ1
        replace hQ0 : Hid (Q0 = (u2 * 4294967296 + w0') / Y) := hQ0
        replace hu2 : Hid (u2 = (u * 4294967296 + w1) % Y) := hu2
        replace hr0 : Hid (r0 = (u2 * 4294967296 + w0') % Y) := hr0
        refine x_region ?_
        refine xseg 1 st rfl ?_
        clear st a; intro a st
        refine x_call st rfl rfl ent64 rfl rfl (by decide) ((LZ_ok y (by omega) (by assumption) _)) ?_
        intro a1 w1 v1 hk1 hv hn st1; subst hv
        clear hn hk1 st a w; revert st1; revert a1; revert w1; intro w a st
        refine x_run (v := .int .u64 ((lz y : Nat) : Int)) st (r_conv (z := ((lz y : Nat) : Int)) st rfl rfl u3 u68 (cvu64 (by omega))) rfl rfl (by decide) ?_
        clear st a; intro a st
        refine xseg 1 st rfl ?_
        clear st a; intro a st
        refine x_nil ?_
        refine x_seq ?_
        refine x_region ?_
        refine xseg 2 st rfl ?_
        clear st a; intro a st
        refine x_run (v := .int .u64 ((Y : Nat) : Int)) st (r_num (v := .int .u64 ((Y : Nat) : Int)) st rfl rfl rfl (run_shlN (by omega) (by rw [hYe.out] at hY2 ⊢; exact Nat.mod_eq_of_lt hY2) _)) rfl rfl (by decide) ?_
        clear st a; intro a st
        refine xseg 1 st rfl ?_
        clear st a; intro a st
        refine x_nil ?_
        refine x_seq ?_
        refine x_region ?_
        refine xseg 1 st rfl ?_
        clear st a; intro a st
        refine x_run (v := .int .u64 ((v1 : Nat) : Int)) st (r_num (v := .int .u64 ((v1 : Nat) : Int)) st rfl rfl rfl (run_shrN (m := 32) hv1.symm hY2 _)) rfl rfl (by decide) ?_
        clear st a; intro a st
        refine xseg 1 st rfl ?_
        clear st a; intro a st
        refine x_nil ?_
        refine x_seq ?_
        refine x_region ?_
        refine xseg 1 st rfl ?_
        clear st a; intro a st
        refine x_run (v := .int .u64 ((v0 : Nat) : Int)) st (r_num (v := .int .u64 ((v0 : Nat) : Int)) st rfl rfl rfl (run_andN hY2 (by decide) (by rw [hv0]; exact and_mask Y) _)) rfl rfl (by decide) ?_
        clear st a; intro a st
        refine xseg 1 st rfl ?_
        clear st a; intro a st
        refine x_nil ?_
        refine x_seq ?_
        refine x_region ?_
        refine xseg 2 st rfl ?_
        clear st a; intro a st
        refine x_run (v := .int .u64 ((h * 2 ^ lz y % 18446744073709551616 : Nat) : Int)) st (r_num (v := .int .u64 ((h * 2 ^ lz y % 18446744073709551616 : Nat) : Int)) st rfl rfl rfl (run_shlN (by omega) rfl _)) rfl rfl (by decide) ?_
        clear st a; intro a st
        refine xseg 2 st rfl ?_
        clear st a; intro a st
        refine xp st (.int .u64 ((64 - lz y : Nat) : Int)) rfl (wu64 (by omega) (by omega)) rfl rfl (by decide) ?_
        clear st a; intro a st
        refine x_run (v := .int .u64 ((l / 2 ^ (64 - lz y) : Nat) : Int)) st (r_num (v := .int .u64 ((l / 2 ^ (64 - lz y) : Nat) : Int)) st rfl rfl rfl (run_shrN rfl hl _)) rfl rfl (by decide) ?_
        clear st a; intro a st
        refine x_run (v := .int .u64 ((u : Nat) : Int)) st (r_num (v := .int .u64 ((u : Nat) : Int)) st rfl rfl rfl (run_orN (Nat.mod_lt _ (by decide)) (Nat.lt_of_le_of_lt (Nat.div_le_self _ _) hl) (by rw [hu.out]; exact or_sum hs hl hh2) _)) rfl rfl (by decide) ?_
        clear st a; intro a st
        refine xseg 1 st rfl ?_
        clear st a; intro a st
        refine x_nil ?_
        refine x_seq ?_
        refine x_region ?_
        refine xseg 2 st rfl ?_
        clear st a; intro a st
        refine x_run (v := .int .u64 ((n : Nat) : Int)) st (r_num (v := .int .u64 ((n : Nat) : Int)) st rfl rfl rfl (run_shlN (by omega) hn.out.symm _)) rfl rfl (by decide) ?_
        clear st a; intro a st
        refine xseg 1 st rfl ?_
        clear st a; intro a st
        refine x_nil ?_
        refine x_seq ?_
        refine x_region ?_
        refine xseg 1 st rfl ?_
        clear st a; intro a st
        refine x_run (v := .int .u64 ((w1 : Nat) : Int)) st (r_num (v := .int .u64 ((w1 : Nat) : Int)) st rfl rfl rfl (run_shrN (m := 32) hw1.symm hnB _)) rfl rfl (by decide) ?_
        clear st a; intro a st
        refine xseg 1 st rfl ?_
        clear st a; intro a st
        refine x_nil ?_
        refine x_seq ?_
        refine x_region ?_
        refine xseg 1 st rfl ?_
        clear st a; intro a st
        refine x_run (v := .int .u64 ((w0' : Nat) : Int)) st (r_num (v := .int .u64 ((w0' : Nat) : Int)) st rfl rfl rfl (run_andN hnB (by decide) (by rw [hw0]; exact and_mask n) _)) rfl rfl (by decide) ?_
        clear st a; intro a st
        refine xseg 1 st rfl ?_
        clear st a; intro a st
        refine x_nil ?_
        refine x_seq ?_
        refine x_region ?_
        refine xseg 2 st rfl ?_
        clear st a; intro a st
        refine x_run (v := .int .u64 ((u / v1 : Nat) : Int)) st (r_num (v := .int .u64 ((u / v1 : Nat) : Int)) st rfl rfl rfl (run_quoN (by omega) (by omega) rfl _)) rfl rfl (by decide) ?_
        clear st a; intro a st
        refine xseg 1 st rfl ?_
        clear st a; intro a st
        refine x_nil ?_
        refine x_seq ?_
        refine x_region ?_
        refine xseg 3 st rfl ?_
        clear st a; intro a st
        refine xp st (.int .u64 ((u / v1 * v1 : Nat) : Int)) rfl (wu64 (q64 (Nat.lt_of_le_of_lt (Nat.div_mul_le_self _ _) (Nat.lt_trans huY hY2))) (Int.natCast_mul _ _).symm) rfl rfl (by decide) ?_
        clear st a; intro a st
        refine xp st (.int .u64 ((u % v1 : Nat) : Int)) rfl (wu64 (q64 (Nat.lt_trans (Nat.mod_lt _ (by omega)) (Nat.lt_of_le_of_lt (by omega) hY2))) (smod _ _)) rfl rfl (by decide) ?_
        clear st a; intro a st
        refine xseg 1 st rfl ?_
        clear st a; intro a st
        refine x_nil ?_
        refine x_seq ?_
        refine wp_block ?_
        refine x_loop (G := Nat) (fun q a w => ∃ r, St w0 [] 135 [(2, .int .u64 ((Y : Nat) : Int)), (8, .int .u64 ((lz y : Nat) : Int)), (9, .int .u64 ((v1 : Nat) : Int)), (10, .int .u64 ((v0 : Nat) : Int)), (11, .int .u64 ((u : Nat) : Int)), (13, .int .u64 ((w1 : Nat) : Int)), (14, .int .u64 ((w0' : Nat) : Int)), (15, .int .u64 ((q : Nat) : Int)), (16, .int .u64 ((r : Nat) : Int))] ([] : Hp) a w ∧ (q * v1 + r = u) ∧ ((u * 4294967296 + w1) / (v1 * 4294967296 + v0) ≤ q) ∧ (r < 4294967296)) (fun q => q) (u / v1) ⟨_, st.pickTo [2, 8, 9, 10, 11, 13, 14, 15, 16] (by kernel_rfl), (by rw [Nat.mul_comm]; exact Nat.div_add_mod _ _), dig_ge (by omega) (by omega), Nat.lt_of_lt_of_le (Nat.mod_lt _ (by omega)) (by omega)⟩ ?_
        clear st a w; intro q a w ⟨r, st, hqA, hQA, hrA⟩
        refine x_seq ?_
        refine x_seq ?_
        rcases Nat.lt_or_ge q 4294967296 with hbA | hbA
        · skip
          refine x_region ?_
          refine xseg 1 st rfl ?_
          clear st a; intro a st
          refine xp st (.bool false) rfl (beq (decide_eq_false (by omega))) rfl rfl (by decide) ?_
          clear st a; intro a st
          refine xseg 1 st rfl ?_
          clear st a; intro a st
          refine x_unguard st (b := false) rfl rfl rfl ?_
          refine xseg 1 st rfl ?_
          clear st a; intro a st
          refine x_unguard st (b := false) rfl rfl rfl ?_
          refine xseg 1 st rfl ?_
          clear st a; intro a st
          refine x_unguard st (b := false) rfl rfl rfl ?_
          refine xp st (.int .u64 ((q * v0 : Nat) : Int)) rfl (wu64 (q64 (mul32 hbA (by unfold B32; omega))) (Int.natCast_mul _ _).symm) rfl rfl (by decide) ?_
          clear st a; intro a st
          refine x_unguard st (b := false) rfl rfl rfl ?_
          refine xseg 1 st rfl ?_
          clear st a; intro a st
          refine x_unguard st (b := false) rfl rfl rfl ?_
          refine xp st (.int .u64 ((4294967296 * r : Nat) : Int)) rfl (wu64 (by omega) (by omega)) rfl rfl (by decide) ?_
          clear st a; intro a st
          refine x_unguard st (b := false) rfl rfl rfl ?_
          refine xseg 1 st rfl ?_
          clear st a; intro a st
          refine x_unguard st (b := false) rfl rfl rfl ?_
          refine xp st (.int .u64 ((4294967296 * r + w1 : Nat) : Int)) rfl (wu64 (by omega) (by omega)) rfl rfl (by decide) ?_
          clear st a; intro a st
          refine x_unguard st (b := false) rfl rfl rfl ?_
          refine xseg 2 st rfl ?_
          clear st a; intro a st
          refine x_nil ?_
          refine x_condD st rfl (fun hcA => ?_) (fun hcA => ?_)
          · refine wp_skip ?_
            refine wp_block ?_
            refine x_seq ?_
            have hdA := dig_step (b := 4294967296) (w := w1) (v0 := v0) hqA hU1 (.inr (by omega))
            have hmA := q_le hqA (by omega)
            refine x_region ?_
            refine xseg 1 st rfl ?_
            clear st a; intro a st
            refine xp st (.int .u64 ((q - 1 : Nat) : Int)) rfl (wu64 (by omega) (by omega)) rfl rfl (by decide) ?_
            clear st a; intro a st
            refine xseg 1 st rfl ?_
            clear st a; intro a st
            refine x_nil ?_
            refine x_seq ?_
            refine x_region ?_
            refine xseg 2 st rfl ?_
            clear st a; intro a st
            refine xp st (.int .u64 ((r + v1 : Nat) : Int)) rfl (wu64 (by omega) (by omega)) rfl rfl (by decide) ?_
            clear st a; intro a st
            refine xseg 1 st rfl ?_
            clear st a; intro a st
            refine x_nil ?_
            refine x_seq ?_
            refine x_region ?_
            refine xseg 2 st rfl ?_
            clear st a; intro a st
            refine x_nil ?_
            refine x_condD st rfl (fun hxA => ?_) (fun hxA => ?_)
            · refine wp_exit ?_
              refine x_outBlock (by decide) ?_
              refine x_thenExit ?_
              refine x_inBlock ?_
              refine x_seq ?_
              have heA : q - 1 = Q1 := by rw [hQ1.out, ← hYs]; exact dig_end (b := 4294967296) (dig_next hqA hdA.2) (by omega) (by omega) hdA.1 hU1 (.inr (by omega))
              refine x_region ?_
              refine xseg 1 st rfl ?_
              clear st a; intro a st
              refine xp st (.int .u64 ((u * 4294967296 % 18446744073709551616 : Nat) : Int)) rfl (wu64m (by omega)) rfl rfl (by decide) ?_
              clear st a; intro a st
              refine xseg 1 st rfl ?_
              clear st a; intro a st
              refine xp st (.int .u64 (((u * 4294967296 + w1) % 18446744073709551616 : Nat) : Int)) rfl (wu64m (by omega)) rfl rfl (by decide) ?_
              clear st a; intro a st
              refine xseg 2 st rfl ?_
              clear st a; intro a st
              refine xp st (.int .u64 (((u * 4294967296 + w1) / Y * Y % 18446744073709551616 : Nat) : Int)) rfl (wu64m (by rw [heA, hQ1.out]; exact wrapmul _ _)) rfl rfl (by decide) ?_
              clear st a; intro a st
              refine xp st (.int .u64 ((u2 : Nat) : Int)) rfl (wu64m (by rw [hu2.out]; exact wrapmod (by omega) (by omega))) rfl rfl (by decide) ?_
              clear st a; intro a st
              refine xseg 1 st rfl ?_
              clear st a; intro a st
              refine x_nil ?_
              refine x_seq ?_
              refine x_region ?_
              refine xseg 2 st rfl ?_
              clear st a; intro a st
              refine x_run (v := .int .u64 ((u2 / v1 : Nat) : Int)) st (r_num (v := .int .u64 ((u2 / v1 : Nat) : Int)) st rfl rfl rfl (run_quoN (by omega) (by omega) rfl _)) rfl rfl (by decide) ?_
              clear st a; intro a st
              refine xseg 1 st rfl ?_
              clear st a; intro a st
              refine x_nil ?_
              refine x_seq ?_
              refine x_region ?_
              refine xseg 3 st rfl ?_
              clear st a; intro a st
              refine xp st (.int .u64 ((u2 / v1 * v1 : Nat) : Int)) rfl (wu64 (q64 (Nat.lt_of_le_of_lt (Nat.div_mul_le_self _ _) (Nat.lt_trans hu2Y hY2))) (Int.natCast_mul _ _).symm) rfl rfl (by decide) ?_
              clear st a; intro a st
              refine xp st (.int .u64 ((u2 % v1 : Nat) : Int)) rfl (wu64 (q64 (Nat.lt_trans (Nat.mod_lt _ (by omega)) (Nat.lt_of_le_of_lt (by omega) hY2))) (smod _ _)) rfl rfl (by decide) ?_
              clear st a; intro a st
              refine xseg 1 st rfl ?_
              clear st a; intro a st
              refine x_nil ?_
              refine x_seq ?_
              refine wp_block ?_
              refine x_loop (G := Nat) (fun q2 a w => ∃ r2, St w0 [] 135 [(2, .int .u64 ((Y : Nat) : Int)), (8, .int .u64 ((lz y : Nat) : Int)), (9, .int .u64 ((v1 : Nat) : Int)), (10, .int .u64 ((v0 : Nat) : Int)), (11, .int .u64 ((u : Nat) : Int)), (13, .int .u64 ((w1 : Nat) : Int)), (14, .int .u64 ((w0' : Nat) : Int)), (15, .int .u64 ((q - 1 : Nat) : Int)), (16, .int .u64 ((r2 : Nat) : Int)), (17, .int .u64 ((u2 : Nat) : Int)), (18, .int .u64 ((q2 : Nat) : Int))] ([] : Hp) a w ∧ (q2 * v1 + r2 = u2) ∧ ((u2 * 4294967296 + w0') / (v1 * 4294967296 + v0) ≤ q2) ∧ (r2 < 4294967296)) (fun q2 => q2) (u2 / v1) ⟨_, st.pickTo [2, 8, 9, 10, 11, 13, 14, 15, 16, 17, 18] (by kernel_rfl), (by rw [Nat.mul_comm]; exact Nat.div_add_mod _ _), dig_ge (by omega) (by omega), Nat.lt_of_lt_of_le (Nat.mod_lt _ (by omega)) (by omega)⟩ ?_
              clear st a w; intro q2 a w ⟨r2, st, hqB, hQB, hrB⟩
              refine x_seq ?_
              refine x_seq ?_
              rcases Nat.lt_or_ge q2 4294967296 with hbB | hbB
              · skip
                refine x_region ?_
                refine xseg 1 st rfl ?_
                clear st a; intro a st
                refine xp st (.bool false) rfl (beq (decide_eq_false (by omega))) rfl rfl (by decide) ?_
                clear st a; intro a st
                refine xseg 1 st rfl ?_
                clear st a; intro a st
                refine x_unguard st (b := false) rfl rfl rfl ?_
                refine xseg 1 st rfl ?_
                clear st a; intro a st
                refine x_unguard st (b := false) rfl rfl rfl ?_
                refine xseg 1 st rfl ?_
                clear st a; intro a st
                refine x_unguard st (b := false) rfl rfl rfl ?_
                refine xp st (.int .u64 ((q2 * v0 : Nat) : Int)) rfl (wu64 (q64 (mul32 hbB (by unfold B32; omega))) (Int.natCast_mul _ _).symm) rfl rfl (by decide) ?_
                clear st a; intro a st
                refine x_unguard st (b := false) rfl rfl rfl ?_
                refine xseg 1 st rfl ?_
                clear st a; intro a st
                refine x_unguard st (b := false) rfl rfl rfl ?_
                refine xp st (.int .u64 ((4294967296 * r2 : Nat) : Int)) rfl (wu64 (by omega) (by omega)) rfl rfl (by decide) ?_
                clear st a; intro a st
                refine x_unguard st (b := false) rfl rfl rfl ?_
                refine xseg 1 st rfl ?_
                clear st a; intro a st
                refine x_unguard st (b := false) rfl rfl rfl ?_
                refine xp st (.int .u64 ((4294967296 * r2 + w0' : Nat) : Int)) rfl (wu64 (by omega) (by omega)) rfl rfl (by decide) ?_
                clear st a; intro a st
                refine x_unguard st (b := false) rfl rfl rfl ?_
                refine xseg 2 st rfl ?_
                clear st a; intro a st
                refine x_nil ?_
                refine x_condD st rfl (fun hcB => ?_) (fun hcB => ?_)
                · refine wp_skip ?_
                  refine wp_block ?_
                  refine x_seq ?_
                  have hdB := dig_step (b := 4294967296) (w := w0') (v0 := v0) hqB hU0 (.inr (by omega))
                  have hmB := q_le hqB (by omega)
                  refine x_region ?_
                  refine xseg 1 st rfl ?_
                  clear st a; intro a st
                  refine xp st (.int .u64 ((q2 - 1 : Nat) : Int)) rfl (wu64 (by omega) (by omega)) rfl rfl (by decide) ?_
                  clear st a; intro a st
                  refine xseg 1 st rfl ?_
                  clear st a; intro a st
                  refine x_nil ?_
                  refine x_seq ?_
                  refine x_region ?_
                  refine xseg 2 st rfl ?_
                  clear st a; intro a st
                  refine xp st (.int .u64 ((r2 + v1 : Nat) : Int)) rfl (wu64 (by omega) (by omega)) rfl rfl (by decide) ?_
                  clear st a; intro a st
                  refine xseg 1 st rfl ?_
                  clear st a; intro a st
                  refine x_nil ?_
                  refine x_seq ?_
                  refine x_region ?_
                  refine xseg 2 st rfl ?_
                  clear st a; intro a st
                  refine x_nil ?_
                  refine x_condD st rfl (fun hxB => ?_) (fun hxB => ?_)
                  · refine wp_exit ?_
                    refine x_outBlock (by decide) ?_
                    refine x_thenExit ?_
                    refine x_inBlock ?_
                    refine x_seq ?_
                    have heB : q2 - 1 = Q0 := by rw [hQ0.out, ← hYs]; exact dig_end (b := 4294967296) (dig_next hqB hdB.2) (by omega) (by omega) hdB.1 hU0 (.inr (by omega))
                    refine x_region ?_
                    refine xseg 1 st rfl ?_
                    clear st a; intro a st
                    refine xp st (.int .u64 ((Q1 * 4294967296 : Nat) : Int)) rfl (wu64 (by omega) (by omega)) rfl rfl (by decide) ?_
                    clear st a; intro a st
                    refine xseg 1 st rfl ?_
                    clear st a; intro a st
                    refine xp st (.int .u64 ((Q1 * 4294967296 + Q0 : Nat) : Int)) rfl (wu64 (by omega) (by omega)) rfl rfl (by decide) ?_
                    clear st a; intro a st
                    refine xseg 1 st rfl ?_
                    clear st a; intro a st
                    refine xp st (.int .u64 ((u2 * 4294967296 % 18446744073709551616 : Nat) : Int)) rfl (wu64m (by omega)) rfl rfl (by decide) ?_
                    clear st a; intro a st
                    refine xseg 1 st rfl ?_
                    clear st a; intro a st
                    refine xp st (.int .u64 (((u2 * 4294967296 + w0') % 18446744073709551616 : Nat) : Int)) rfl (wu64m (by omega)) rfl rfl (by decide) ?_
                    clear st a; intro a st
                    refine xseg 2 st rfl ?_
                    clear st a; intro a st
                    refine xp st (.int .u64 (((u2 * 4294967296 + w0') / Y * Y % 18446744073709551616 : Nat) : Int)) rfl (wu64m (by rw [heB, hQ0.out]; exact wrapmul _ _)) rfl rfl (by decide) ?_
                    clear st a; intro a st
                    refine xp st (.int .u64 ((r0 : Nat) : Int)) rfl (wu64m (by rw [hr0.out]; exact wrapmod (by omega) (by omega))) rfl rfl (by decide) ?_
                    clear st a; intro a st
                    refine xseg 1 st rfl ?_
                    clear st a; intro a st
                    refine x_run (v := .int .u64 ((r0 / 2 ^ lz y : Nat) : Int)) st (r_num (v := .int .u64 ((r0 / 2 ^ lz y : Nat) : Int)) st rfl rfl rfl (run_shrN rfl (by rw [hr0.out]; exact Nat.lt_trans (Nat.mod_lt _ (by omega)) hY2) _)) rfl rfl (by decide) ?_
                    clear st a; intro a st
                    refine xseg 2 st rfl ?_
                    clear st a; intro a st
                    refine x_nil ?_
                    refine x_wpret ?_
                    exact x_retp st [.int .u64 ((Q1 * 4294967296 + Q0 : Nat) : Int), .int .u64 ((r0 / 2 ^ lz y : Nat) : Int)] rfl ⟨rfl, rfl, trivial⟩ rfl (div64_post hs hy0 hu hn hwn hYe hQ1 hu2 hQ0 hr0)
                  · refine wp_skip ?_
                    exact ⟨q2 - 1, ⟨_, st.pickTo [2, 8, 9, 10, 11, 13, 14, 15, 16, 17, 18] (by kernel_rfl), dig_next hqB hdB.2, hdB.1, by omega⟩, by omega⟩
                · refine wp_exit ?_
                  refine x_thenExit ?_
                  refine x_thenExit ?_
                  refine x_inBlock ?_
                  refine x_seq ?_
                  have heB : q2 = Q0 := by rw [hQ0.out, ← hYs]; exact dig_end (b := 4294967296) hqB (by omega) (by omega) hQB hU0 (.inl (by omega))
                  refine x_region ?_
                  refine xseg 1 st rfl ?_
                  clear st a; intro a st
                  refine xp st (.int .u64 ((Q1 * 4294967296 : Nat) : Int)) rfl (wu64 (by omega) (by omega)) rfl rfl (by decide) ?_
                  clear st a; intro a st
                  refine xseg 1 st rfl ?_
                  clear st a; intro a st
                  refine xp st (.int .u64 ((Q1 * 4294967296 + Q0 : Nat) : Int)) rfl (wu64 (by omega) (by omega)) rfl rfl (by decide) ?_
                  clear st a; intro a st
                  refine xseg 1 st rfl ?_
                  clear st a; intro a st
                  refine xp st (.int .u64 ((u2 * 4294967296 % 18446744073709551616 : Nat) : Int)) rfl (wu64m (by omega)) rfl rfl (by decide) ?_
                  clear st a; intro a st
                  refine xseg 1 st rfl ?_
                  clear st a; intro a st
                  refine xp st (.int .u64 (((u2 * 4294967296 + w0') % 18446744073709551616 : Nat) : Int)) rfl (wu64m (by omega)) rfl rfl (by decide) ?_
                  clear st a; intro a st
                  refine xseg 2 st rfl ?_
                  clear st a; intro a st
                  refine xp st (.int .u64 (((u2 * 4294967296 + w0') / Y * Y % 18446744073709551616 : Nat) : Int)) rfl (wu64m (by rw [heB, hQ0.out]; exact wrapmul _ _)) rfl rfl (by decide) ?_
                  clear st a; intro a st
                  refine xp st (.int .u64 ((r0 : Nat) : Int)) rfl (wu64m (by rw [hr0.out]; exact wrapmod (by omega) (by omega))) rfl rfl (by decide) ?_
                  clear st a; intro a st
                  refine xseg 1 st rfl ?_
                  clear st a; intro a st
                  refine x_run (v := .int .u64 ((r0 / 2 ^ lz y : Nat) : Int)) st (r_num (v := .int .u64 ((r0 / 2 ^ lz y : Nat) : Int)) st rfl rfl rfl (run_shrN rfl (by rw [hr0.out]; exact Nat.lt_trans (Nat.mod_lt _ (by omega)) hY2) _)) rfl rfl (by decide) ?_
                  clear st a; intro a st
                  refine xseg 2 st rfl ?_
                  clear st a; intro a st
                  refine x_nil ?_
                  refine x_wpret ?_
                  exact x_retp st [.int .u64 ((Q1 * 4294967296 + Q0 : Nat) : Int), .int .u64 ((r0 / 2 ^ lz y : Nat) : Int)] rfl ⟨rfl, rfl, trivial⟩ rfl (div64_post hs hy0 hu hn hwn hYe hQ1 hu2 hQ0 hr0)
              · skip
                refine x_region ?_
                refine xseg 1 st rfl ?_
                clear st a; intro a st
                refine xp st (.bool true) rfl (beq (decide_eq_true (by omega))) rfl rfl (by decide) ?_
                clear st a; intro a st
                refine xseg 1 st rfl ?_
                clear st a; intro a st
                refine x_skip st (b := false) (c := true) rfl rfl rfl (by decide) rfl (by decide) ?_
                clear st a; intro a st
                refine x_skip st (b := false) (c := true) rfl rfl rfl (by decide) rfl (by decide) ?_
                clear st a; intro a st
                refine x_skip st (b := false) (c := true) rfl rfl rfl (by decide) rfl (by decide) ?_
                clear st a; intro a st
                refine x_skip st (b := false) (c := true) rfl rfl rfl (by decide) rfl (by decide) ?_
                clear st a; intro a st
                refine x_skip st (b := false) (c := true) rfl rfl rfl (by decide) rfl (by decide) ?_
                clear st a; intro a st
                refine x_skip st (b := false) (c := true) rfl rfl rfl (by decide) rfl (by decide) ?_
                clear st a; intro a st
                refine x_skip st (b := false) (c := true) rfl rfl rfl (by decide) rfl (by decide) ?_
                clear st a; intro a st
                refine x_skip st (b := false) (c := true) rfl rfl rfl (by decide) rfl (by decide) ?_
                clear st a; intro a st
                refine xseg 1 st rfl ?_
                clear st a; intro a st
                refine x_nil ?_
                refine x_condT st rfl ?_
                refine wp_skip ?_
                refine wp_block ?_
                refine x_seq ?_
                have hdB := dig_step (b := 4294967296) (w := w0') (v0 := v0) hqB hU0 (.inl hbB)
                have hmB := q_le hqB (by omega)
                refine x_region ?_
                refine xseg 1 st rfl ?_
                clear st a; intro a st
                refine xp st (.int .u64 ((q2 - 1 : Nat) : Int)) rfl (wu64 (by omega) (by omega)) rfl rfl (by decide) ?_
                clear st a; intro a st
                refine xseg 1 st rfl ?_
                clear st a; intro a st
                refine x_nil ?_
                refine x_seq ?_
                refine x_region ?_
                refine xseg 2 st rfl ?_
                clear st a; intro a st
                refine xp st (.int .u64 ((r2 + v1 : Nat) : Int)) rfl (wu64 (by omega) (by omega)) rfl rfl (by decide) ?_
                clear st a; intro a st
                refine xseg 1 st rfl ?_
                clear st a; intro a st
                refine x_nil ?_
                refine x_seq ?_
                refine x_region ?_
                refine xseg 2 st rfl ?_
                clear st a; intro a st
                refine x_nil ?_
                refine x_condD st rfl (fun hxB => ?_) (fun hxB => ?_)
                · refine wp_exit ?_
                  refine x_outBlock (by decide) ?_
                  refine x_thenExit ?_
                  refine x_inBlock ?_
                  refine x_seq ?_
                  have heB : q2 - 1 = Q0 := by rw [hQ0.out, ← hYs]; exact dig_end (b := 4294967296) (dig_next hqB hdB.2) (by omega) (by omega) hdB.1 hU0 (.inr (by omega))
                  refine x_region ?_
                  refine xseg 1 st rfl ?_
                  clear st a; intro a st
                  refine xp st (.int .u64 ((Q1 * 4294967296 : Nat) : Int)) rfl (wu64 (by omega) (by omega)) rfl rfl (by decide) ?_
                  clear st a; intro a st
                  refine xseg 1 st rfl ?_
                  clear st a; intro a st
                  refine xp st (.int .u64 ((Q1 * 4294967296 + Q0 : Nat) : Int)) rfl (wu64 (by omega) (by omega)) rfl rfl (by decide) ?_
                  clear st a; intro a st
                  refine xseg 1 st rfl ?_
                  clear st a; intro a st
                  refine xp st (.int .u64 ((u2 * 4294967296 % 18446744073709551616 : Nat) : Int)) rfl (wu64m (by omega)) rfl rfl (by decide) ?_
                  clear st a; intro a st
                  refine xseg 1 st rfl ?_
                  clear st a; intro a st
                  refine xp st (.int .u64 (((u2 * 4294967296 + w0') % 18446744073709551616 : Nat) : Int)) rfl (wu64m (by omega)) rfl rfl (by decide) ?_
                  clear st a; intro a st
                  refine xseg 2 st rfl ?_
                  clear st a; intro a st
                  refine xp st (.int .u64 (((u2 * 4294967296 + w0') / Y * Y % 18446744073709551616 : Nat) : Int)) rfl (wu64m (by rw [heB, hQ0.out]; exact wrapmul _ _)) rfl rfl (by decide) ?_
                  clear st a; intro a st
                  refine xp st (.int .u64 ((r0 : Nat) : Int)) rfl (wu64m (by rw [hr0.out]; exact wrapmod (by omega) (by omega))) rfl rfl (by decide) ?_
                  clear st a; intro a st
                  refine xseg 1 st rfl ?_
                  clear st a; intro a st
                  refine x_run (v := .int .u64 ((r0 / 2 ^ lz y : Nat) : Int)) st (r_num (v := .int .u64 ((r0 / 2 ^ lz y : Nat) : Int)) st rfl rfl rfl (run_shrN rfl (by rw [hr0.out]; exact Nat.lt_trans (Nat.mod_lt _ (by omega)) hY2) _)) rfl rfl (by decide) ?_
                  clear st a; intro a st
                  refine xseg 2 st rfl ?_
                  clear st a; intro a st
                  refine x_nil ?_
                  refine x_wpret ?_
                  exact x_retp st [.int .u64 ((Q1 * 4294967296 + Q0 : Nat) : Int), .int .u64 ((r0 / 2 ^ lz y : Nat) : Int)] rfl ⟨rfl, rfl, trivial⟩ rfl (div64_post hs hy0 hu hn hwn hYe hQ1 hu2 hQ0 hr0)
                · refine wp_skip ?_
                  exact ⟨q2 - 1, ⟨_, st.pickTo [2, 8, 9, 10, 11, 13, 14, 15, 16, 17, 18] (by kernel_rfl), dig_next hqB hdB.2, hdB.1, by omega⟩, by omega⟩
            · refine wp_skip ?_
              exact ⟨q - 1, ⟨_, st.pickTo [2, 8, 9, 10, 11, 13, 14, 15, 16] (by kernel_rfl), dig_next hqA hdA.2, hdA.1, by omega⟩, by omega⟩
          · refine wp_exit ?_
            refine x_thenExit ?_
            refine x_thenExit ?_
            refine x_inBlock ?_
            refine x_seq ?_
            have heA : q = Q1 := by rw [hQ1.out, ← hYs]; exact dig_end (b := 4294967296) hqA (by omega) (by omega) hQA hU1 (.inl (by omega))
            refine x_region ?_
            refine xseg 1 st rfl ?_
            clear st a; intro a st
            refine xp st (.int .u64 ((u * 4294967296 % 18446744073709551616 : Nat) : Int)) rfl (wu64m (by omega)) rfl rfl (by decide) ?_
            clear st a; intro a st
            refine xseg 1 st rfl ?_
            clear st a; intro a st
            refine xp st (.int .u64 (((u * 4294967296 + w1) % 18446744073709551616 : Nat) : Int)) rfl (wu64m (by omega)) rfl rfl (by decide) ?_
            clear st a; intro a st
            refine xseg 2 st rfl ?_
            clear st a; intro a st
            refine xp st (.int .u64 (((u * 4294967296 + w1) / Y * Y % 18446744073709551616 : Nat) : Int)) rfl (wu64m (by rw [heA, hQ1.out]; exact wrapmul _ _)) rfl rfl (by decide) ?_
            clear st a; intro a st
            refine xp st (.int .u64 ((u2 : Nat) : Int)) rfl (wu64m (by rw [hu2.out]; exact wrapmod (by omega) (by omega))) rfl rfl (by decide) ?_
            clear st a; intro a st
            refine xseg 1 st rfl ?_
            clear st a; intro a st
            refine x_nil ?_
            refine x_seq ?_
            refine x_region ?_
            refine xseg 2 st rfl ?_
            clear st a; intro a st
            refine x_run (v := .int .u64 ((u2 / v1 : Nat) : Int)) st (r_num (v := .int .u64 ((u2 / v1 : Nat) : Int)) st rfl rfl rfl (run_quoN (by omega) (by omega) rfl _)) rfl rfl (by decide) ?_
            clear st a; intro a st
            refine xseg 1 st rfl ?_
            clear st a; intro a st
            refine x_nil ?_
            refine x_seq ?_
            refine x_region ?_
            refine xseg 3 st rfl ?_
            clear st a; intro a st
            refine xp st (.int .u64 ((u2 / v1 * v1 : Nat) : Int)) rfl (wu64 (q64 (Nat.lt_of_le_of_lt (Nat.div_mul_le_self _ _) (Nat.lt_trans hu2Y hY2))) (Int.natCast_mul _ _).symm) rfl rfl (by decide) ?_
            clear st a; intro a st
            refine xp st (.int .u64 ((u2 % v1 : Nat) : Int)) rfl (wu64 (q64 (Nat.lt_trans (Nat.mod_lt _ (by omega)) (Nat.lt_of_le_of_lt (by omega) hY2))) (smod _ _)) rfl rfl (by decide) ?_
            clear st a; intro a st
            refine xseg 1 st rfl ?_
            clear st a; intro a st
            refine x_nil ?_
            refine x_seq ?_
            refine wp_block ?_
            refine x_loop (G := Nat) (fun q2 a w => ∃ r2, St w0 [] 135 [(2, .int .u64 ((Y : Nat) : Int)), (8, .int .u64 ((lz y : Nat) : Int)), (9, .int .u64 ((v1 : Nat) : Int)), (10, .int .u64 ((v0 : Nat) : Int)), (11, .int .u64 ((u : Nat) : Int)), (13, .int .u64 ((w1 : Nat) : Int)), (14, .int .u64 ((w0' : Nat) : Int)), (15, .int .u64 ((q : Nat) : Int)), (16, .int .u64 ((r2 : Nat) : Int)), (17, .int .u64 ((u2 : Nat) : Int)), (18, .int .u64 ((q2 : Nat) : Int))] ([] : Hp) a w ∧ (q2 * v1 + r2 = u2) ∧ ((u2 * 4294967296 + w0') / (v1 * 4294967296 + v0) ≤ q2) ∧ (r2 < 4294967296)) (fun q2 => q2) (u2 / v1) ⟨_, st.pickTo [2, 8, 9, 10, 11, 13, 14, 15, 16, 17, 18] (by kernel_rfl), (by rw [Nat.mul_comm]; exact Nat.div_add_mod _ _), dig_ge (by omega) (by omega), Nat.lt_of_lt_of_le (Nat.mod_lt _ (by omega)) (by omega)⟩ ?_
            clear st a w; intro q2 a w ⟨r2, st, hqB, hQB, hrB⟩
            refine x_seq ?_
            refine x_seq ?_
            rcases Nat.lt_or_ge q2 4294967296 with hbB | hbB
            · skip
              refine x_region ?_
              refine xseg 1 st rfl ?_
              clear st a; intro a st
              refine xp st (.bool false) rfl (beq (decide_eq_false (by omega))) rfl rfl (by decide) ?_
              clear st a; intro a st
              refine xseg 1 st rfl ?_
              clear st a; intro a st
              refine x_unguard st (b := false) rfl rfl rfl ?_
              refine xseg 1 st rfl ?_
              clear st a; intro a st
              refine x_unguard st (b := false) rfl rfl rfl ?_
              refine xseg 1 st rfl ?_
              clear st a; intro a st
              refine x_unguard st (b := false) rfl rfl rfl ?_
              refine xp st (.int .u64 ((q2 * v0 : Nat) : Int)) rfl (wu64 (q64 (mul32 hbB (by unfold B32; omega))) (Int.natCast_mul _ _).symm) rfl rfl (by decide) ?_
              clear st a; intro a st
              refine x_unguard st (b := false) rfl rfl rfl ?_
              refine xseg 1 st rfl ?_
              clear st a; intro a st
              refine x_unguard st (b := false) rfl rfl rfl ?_
              refine xp st (.int .u64 ((4294967296 * r2 : Nat) : Int)) rfl (wu64 (by omega) (by omega)) rfl rfl (by decide) ?_
              clear st a; intro a st
              refine x_unguard st (b := false) rfl rfl rfl ?_
              refine xseg 1 st rfl ?_
              clear st a; intro a st
              refine x_unguard st (b := false) rfl rfl rfl ?_
              refine xp st (.int .u64 ((4294967296 * r2 + w0' : Nat) : Int)) rfl (wu64 (by omega) (by omega)) rfl rfl (by decide) ?_
              clear st a; intro a st
              refine x_unguard st (b := false) rfl rfl rfl ?_
              refine xseg 2 st rfl ?_
              clear st a; intro a st
              refine x_nil ?_
              refine x_condD st rfl (fun hcB => ?_) (fun hcB => ?_)
              · refine wp_skip ?_
                refine wp_block ?_
                refine x_seq ?_
                have hdB := dig_step (b := 4294967296) (w := w0') (v0 := v0) hqB hU0 (.inr (by omega))
                have hmB := q_le hqB (by omega)
                refine x_region ?_
                refine xseg 1 st rfl ?_
                clear st a; intro a st
                refine xp st (.int .u64 ((q2 - 1 : Nat) : Int)) rfl (wu64 (by omega) (by omega)) rfl rfl (by decide) ?_
                clear st a; intro a st
                refine xseg 1 st rfl ?_
                clear st a; intro a st
                refine x_nil ?_
                refine x_seq ?_
                refine x_region ?_
                refine xseg 2 st rfl ?_
                clear st a; intro a st
                refine xp st (.int .u64 ((r2 + v1 : Nat) : Int)) rfl (wu64 (by omega) (by omega)) rfl rfl (by decide) ?_
                clear st a; intro a st
                refine xseg 1 st rfl ?_
                clear st a; intro a st
                refine x_nil ?_
                refine x_seq ?_
                refine x_region ?_
                refine xseg 2 st rfl ?_
                clear st a; intro a st
                refine x_nil ?_
                refine x_condD st rfl (fun hxB => ?_) (fun hxB => ?_)
                · refine wp_exit ?_
                  refine x_outBlock (by decide) ?_
                  refine x_thenExit ?_
                  refine x_inBlock ?_
                  refine x_seq ?_
                  have heB : q2 - 1 = Q0 := by rw [hQ0.out, ← hYs]; exact dig_end (b := 4294967296) (dig_next hqB hdB.2) (by omega) (by omega) hdB.1 hU0 (.inr (by omega))
                  refine x_region ?_
                  refine xseg 1 st rfl ?_
                  clear st a; intro a st
                  refine xp st (.int .u64 ((Q1 * 4294967296 : Nat) : Int)) rfl (wu64 (by omega) (by omega)) rfl rfl (by decide) ?_
                  clear st a; intro a st
                  refine xseg 1 st rfl ?_
                  clear st a; intro a st
                  refine xp st (.int .u64 ((Q1 * 4294967296 + Q0 : Nat) : Int)) rfl (wu64 (by omega) (by omega)) rfl rfl (by decide) ?_
                  clear st a; intro a st
                  refine xseg 1 st rfl ?_
                  clear st a; intro a st
                  refine xp st (.int .u64 ((u2 * 4294967296 % 18446744073709551616 : Nat) : Int)) rfl (wu64m (by omega)) rfl rfl (by decide) ?_
                  clear st a; intro a st
                  refine xseg 1 st rfl ?_
                  clear st a; intro a st
                  refine xp st (.int .u64 (((u2 * 4294967296 + w0') % 18446744073709551616 : Nat) : Int)) rfl (wu64m (by omega)) rfl rfl (by decide) ?_
                  clear st a; intro a st
                  refine xseg 2 st rfl ?_
                  clear st a; intro a st
                  refine xp st (.int .u64 (((u2 * 4294967296 + w0') / Y * Y % 18446744073709551616 : Nat) : Int)) rfl (wu64m (by rw [heB, hQ0.out]; exact wrapmul _ _)) rfl rfl (by decide) ?_
                  clear st a; intro a st
                  refine xp st (.int .u64 ((r0 : Nat) : Int)) rfl (wu64m (by rw [hr0.out]; exact wrapmod (by omega) (by omega))) rfl rfl (by decide) ?_
                  clear st a; intro a st
                  refine xseg 1 st rfl ?_
                  clear st a; intro a st
                  refine x_run (v := .int .u64 ((r0 / 2 ^ lz y : Nat) : Int)) st (r_num (v := .int .u64 ((r0 / 2 ^ lz y : Nat) : Int)) st rfl rfl rfl (run_shrN rfl (by rw [hr0.out]; exact Nat.lt_trans (Nat.mod_lt _ (by omega)) hY2) _)) rfl rfl (by decide) ?_
                  clear st a; intro a st
                  refine xseg 2 st rfl ?_
                  clear st a; intro a st
                  refine x_nil ?_
                  refine x_wpret ?_
                  exact x_retp st [.int .u64 ((Q1 * 4294967296 + Q0 : Nat) : Int), .int .u64 ((r0 / 2 ^ lz y : Nat) : Int)] rfl ⟨rfl, rfl, trivial⟩ rfl (div64_post hs hy0 hu hn hwn hYe hQ1 hu2 hQ0 hr0)
                · refine wp_skip ?_
                  exact ⟨q2 - 1, ⟨_, st.pickTo [2, 8, 9, 10, 11, 13, 14, 15, 16, 17, 18] (by kernel_rfl), dig_next hqB hdB.2, hdB.1, by omega⟩, by omega⟩
              · refine wp_exit ?_
                refine x_thenExit ?_
                refine x_thenExit ?_
                refine x_inBlock ?_
                refine x_seq ?_
                have heB : q2 = Q0 := by rw [hQ0.out, ← hYs]; exact dig_end (b := 4294967296) hqB (by omega) (by omega) hQB hU0 (.inl (by omega))
                refine x_region ?_
                refine xseg 1 st rfl ?_
                clear st a; intro a st
                refine xp st (.int .u64 ((Q1 * 4294967296 : Nat) : Int)) rfl (wu64 (by omega) (by omega)) rfl rfl (by decide) ?_
                clear st a; intro a st
                refine xseg 1 st rfl ?_
                clear st a; intro a st
                refine xp st (.int .u64 ((Q1 * 4294967296 + Q0 : Nat) : Int)) rfl (wu64 (by omega) (by omega)) rfl rfl (by decide) ?_
                clear st a; intro a st
                refine xseg 1 st rfl ?_
                clear st a; intro a st
                refine xp st (.int .u64 ((u2 * 4294967296 % 18446744073709551616 : Nat) : Int)) rfl (wu64m (by omega)) rfl rfl (by decide) ?_
                clear st a; intro a st
                refine xseg 1 st rfl ?_
                clear st a; intro a st
                refine xp st (.int .u64 (((u2 * 4294967296 + w0') % 18446744073709551616 : Nat) : Int)) rfl (wu64m (by omega)) rfl rfl (by decide) ?_
                clear st a; intro a st
                refine xseg 2 st rfl ?_
                clear st a; intro a st
                refine xp st (.int .u64 (((u2 * 4294967296 + w0') / Y * Y % 18446744073709551616 : Nat) : Int)) rfl (wu64m (by rw [heB, hQ0.out]; exact wrapmul _ _)) rfl rfl (by decide) ?_
                clear st a; intro a st
                refine xp st (.int .u64 ((r0 : Nat) : Int)) rfl (wu64m (by rw [hr0.out]; exact wrapmod (by omega) (by omega))) rfl rfl (by decide) ?_
                clear st a; intro a st
                refine xseg 1 st rfl ?_
                clear st a; intro a st
                refine x_run (v := .int .u64 ((r0 / 2 ^ lz y : Nat) : Int)) st (r_num (v := .int .u64 ((r0 / 2 ^ lz y : Nat) : Int)) st rfl rfl rfl (run_shrN rfl (by rw [hr0.out]; exact Nat.lt_trans (Nat.mod_lt _ (by omega)) hY2) _)) rfl rfl (by decide) ?_
                clear st a; intro a st
                refine xseg 2 st rfl ?_
                clear st a; intro a st
                refine x_nil ?_
                refine x_wpret ?_
                exact x_retp st [.int .u64 ((Q1 * 4294967296 + Q0 : Nat) : Int), .int .u64 ((r0 / 2 ^ lz y : Nat) : Int)] rfl ⟨rfl, rfl, trivial⟩ rfl (div64_post hs hy0 hu hn hwn hYe hQ1 hu2 hQ0 hr0)
            · skip
              refine x_region ?_
              refine xseg 1 st rfl ?_
              clear st a; intro a st
              refine xp st (.bool true) rfl (beq (decide_eq_true (by omega))) rfl rfl (by decide) ?_
              clear st a; intro a st
              refine xseg 1 st rfl ?_
              clear st a; intro a st
              refine x_skip st (b := false) (c := true) rfl rfl rfl (by decide) rfl (by decide) ?_
              clear st a; intro a st
              refine x_skip st (b := false) (c := true) rfl rfl rfl (by decide) rfl (by decide) ?_
              clear st a; intro a st
              refine x_skip st (b := false) (c := true) rfl rfl rfl (by decide) rfl (by decide) ?_
              clear st a; intro a st
              refine x_skip st (b := false) (c := true) rfl rfl rfl (by decide) rfl (by decide) ?_
              clear st a; intro a st
              refine x_skip st (b := false) (c := true) rfl rfl rfl (by decide) rfl (by decide) ?_
              clear st a; intro a st
              refine x_skip st (b := false) (c := true) rfl rfl rfl (by decide) rfl (by decide) ?_
              clear st a; intro a st
              refine x_skip st (b := false) (c := true) rfl rfl rfl (by decide) rfl (by decide) ?_
              clear st a; intro a st
              refine x_skip st (b := false) (c := true) rfl rfl rfl (by decide) rfl (by decide) ?_
              clear st a; intro a st
              refine xseg 1 st rfl ?_
              clear st a; intro a st
              refine x_nil ?_
              refine x_condT st rfl ?_
              refine wp_skip ?_
              refine wp_block ?_
              refine x_seq ?_
              have hdB := dig_step (b := 4294967296) (w := w0') (v0 := v0) hqB hU0 (.inl hbB)
              have hmB := q_le hqB (by omega)
              refine x_region ?_
              refine xseg 1 st rfl ?_
              clear st a; intro a st
              refine xp st (.int .u64 ((q2 - 1 : Nat) : Int)) rfl (wu64 (by omega) (by omega)) rfl rfl (by decide) ?_
              clear st a; intro a st
              refine xseg 1 st rfl ?_
              clear st a; intro a st
              refine x_nil ?_
              refine x_seq ?_
              refine x_region ?_
              refine xseg 2 st rfl ?_
              clear st a; intro a st
              refine xp st (.int .u64 ((r2 + v1 : Nat) : Int)) rfl (wu64 (by omega) (by omega)) rfl rfl (by decide) ?_
              clear st a; intro a st
              refine xseg 1 st rfl ?_
              clear st a; intro a st
              refine x_nil ?_
              refine x_seq ?_
              refine x_region ?_
              refine xseg 2 st rfl ?_
              clear st a; intro a st
              refine x_nil ?_
              refine x_condD st rfl (fun hxB => ?_) (fun hxB => ?_)
              · refine wp_exit ?_
                refine x_outBlock (by decide) ?_
                refine x_thenExit ?_
                refine x_inBlock ?_
                refine x_seq ?_
                have heB : q2 - 1 = Q0 := by rw [hQ0.out, ← hYs]; exact dig_end (b := 4294967296) (dig_next hqB hdB.2) (by omega) (by omega) hdB.1 hU0 (.inr (by omega))
                refine x_region ?_
                refine xseg 1 st rfl ?_
                clear st a; intro a st
                refine xp st (.int .u64 ((Q1 * 4294967296 : Nat) : Int)) rfl (wu64 (by omega) (by omega)) rfl rfl (by decide) ?_
                clear st a; intro a st
                refine xseg 1 st rfl ?_
                clear st a; intro a st
                refine xp st (.int .u64 ((Q1 * 4294967296 + Q0 : Nat) : Int)) rfl (wu64 (by omega) (by omega)) rfl rfl (by decide) ?_
                clear st a; intro a st
                refine xseg 1 st rfl ?_
                clear st a; intro a st
                refine xp st (.int .u64 ((u2 * 4294967296 % 18446744073709551616 : Nat) : Int)) rfl (wu64m (by omega)) rfl rfl (by decide) ?_
                clear st a; intro a st
                refine xseg 1 st rfl ?_
                clear st a; intro a st
                refine xp st (.int .u64 (((u2 * 4294967296 + w0') % 18446744073709551616 : Nat) : Int)) rfl (wu64m (by omega)) rfl rfl (by decide) ?_
                clear st a; intro a st
                refine xseg 2 st rfl ?_
                clear st a; intro a st
                refine xp st (.int .u64 (((u2 * 4294967296 + w0') / Y * Y % 18446744073709551616 : Nat) : Int)) rfl (wu64m (by rw [heB, hQ0.out]; exact wrapmul _ _)) rfl rfl (by decide) ?_
                clear st a; intro a st
                refine xp st (.int .u64 ((r0 : Nat) : Int)) rfl (wu64m (by rw [hr0.out]; exact wrapmod (by omega) (by omega))) rfl rfl (by decide) ?_
                clear st a; intro a st
                refine xseg 1 st rfl ?_
                clear st a; intro a st
                refine x_run (v := .int .u64 ((r0 / 2 ^ lz y : Nat) : Int)) st (r_num (v := .int .u64 ((r0 / 2 ^ lz y : Nat) : Int)) st rfl rfl rfl (run_shrN rfl (by rw [hr0.out]; exact Nat.lt_trans (Nat.mod_lt _ (by omega)) hY2) _)) rfl rfl (by decide) ?_
                clear st a; intro a st
                refine xseg 2 st rfl ?_
                clear st a; intro a st
                refine x_nil ?_
                refine x_wpret ?_
                exact x_retp st [.int .u64 ((Q1 * 4294967296 + Q0 : Nat) : Int), .int .u64 ((r0 / 2 ^ lz y : Nat) : Int)] rfl ⟨rfl, rfl, trivial⟩ rfl (div64_post hs hy0 hu hn hwn hYe hQ1 hu2 hQ0 hr0)
              · refine wp_skip ?_
                exact ⟨q2 - 1, ⟨_, st.pickTo [2, 8, 9, 10, 11, 13, 14, 15, 16, 17, 18] (by kernel_rfl), dig_next hqB hdB.2, hdB.1, by omega⟩, by omega⟩
        · skip
          refine x_region ?_
          refine xseg 1 st rfl ?_
          clear st a; intro a st
          refine xp st (.bool true) rfl (beq (decide_eq_true (by omega))) rfl rfl (by decide) ?_
          clear st a; intro a st
          refine xseg 1 st rfl ?_
          clear st a; intro a st
          refine x_skip st (b := false) (c := true) rfl rfl rfl (by decide) rfl (by decide) ?_
          clear st a; intro a st
          refine x_skip st (b := false) (c := true) rfl rfl rfl (by decide) rfl (by decide) ?_
          clear st a; intro a st
          refine x_skip st (b := false) (c := true) rfl rfl rfl (by decide) rfl (by decide) ?_
          clear st a; intro a st
          refine x_skip st (b := false) (c := true) rfl rfl rfl (by decide) rfl (by decide) ?_
          clear st a; intro a st
          refine x_skip st (b := false) (c := true) rfl rfl rfl (by decide) rfl (by decide) ?_
          clear st a; intro a st
          refine x_skip st (b := false) (c := true) rfl rfl rfl (by decide) rfl (by decide) ?_
          clear st a; intro a st
          refine x_skip st (b := false) (c := true) rfl rfl rfl (by decide) rfl (by decide) ?_
          clear st a; intro a st
          refine x_skip st (b := false) (c := true) rfl rfl rfl (by decide) rfl (by decide) ?_
          clear st a; intro a st
          refine xseg 1 st rfl ?_
          clear st a; intro a st
          refine x_nil ?_
          refine x_condT st rfl ?_
          refine wp_skip ?_
          refine wp_block ?_
          refine x_seq ?_
          have hdA := dig_step (b := 4294967296) (w := w1) (v0 := v0) hqA hU1 (.inl hbA)
          have hmA := q_le hqA (by omega)
          refine x_region ?_
          refine xseg 1 st rfl ?_
          clear st a; intro a st
          refine xp st (.int .u64 ((q - 1 : Nat) : Int)) rfl (wu64 (by omega) (by omega)) rfl rfl (by decide) ?_
          clear st a; intro a st
          refine xseg 1 st rfl ?_
          clear st a; intro a st
          refine x_nil ?_
          refine x_seq ?_
          refine x_region ?_
          refine xseg 2 st rfl ?_
          clear st a; intro a st
          refine xp st (.int .u64 ((r + v1 : Nat) : Int)) rfl (wu64 (by omega) (by omega)) rfl rfl (by decide) ?_
          clear st a; intro a st
          refine xseg 1 st rfl ?_
          clear st a; intro a st
          refine x_nil ?_
          refine x_seq ?_
          refine x_region ?_
          refine xseg 2 st rfl ?_
          clear st a; intro a st
          refine x_nil ?_
          refine x_condD st rfl (fun hxA => ?_) (fun hxA => ?_)
          · refine wp_exit ?_
            refine x_outBlock (by decide) ?_
            refine x_thenExit ?_
            refine x_inBlock ?_
            refine x_seq ?_
            have heA : q - 1 = Q1 := by rw [hQ1.out, ← hYs]; exact dig_end (b := 4294967296) (dig_next hqA hdA.2) (by omega) (by omega) hdA.1 hU1 (.inr (by omega))
            refine x_region ?_
            refine xseg 1 st rfl ?_
            clear st a; intro a st
            refine xp st (.int .u64 ((u * 4294967296 % 18446744073709551616 : Nat) : Int)) rfl (wu64m (by omega)) rfl rfl (by decide) ?_
            clear st a; intro a st
            refine xseg 1 st rfl ?_
            clear st a; intro a st
            refine xp st (.int .u64 (((u * 4294967296 + w1) % 18446744073709551616 : Nat) : Int)) rfl (wu64m (by omega)) rfl rfl (by decide) ?_
            clear st a; intro a st
            refine xseg 2 st rfl ?_
            clear st a; intro a st
            refine xp st (.int .u64 (((u * 4294967296 + w1) / Y * Y % 18446744073709551616 : Nat) : Int)) rfl (wu64m (by rw [heA, hQ1.out]; exact wrapmul _ _)) rfl rfl (by decide) ?_
            clear st a; intro a st
            refine xp st (.int .u64 ((u2 : Nat) : Int)) rfl (wu64m (by rw [hu2.out]; exact wrapmod (by omega) (by omega))) rfl rfl (by decide) ?_
            clear st a; intro a st
            refine xseg 1 st rfl ?_
            clear st a; intro a st
            refine x_nil ?_
            refine x_seq ?_
            refine x_region ?_
            refine xseg 2 st rfl ?_
            clear st a; intro a st
            refine x_run (v := .int .u64 ((u2 / v1 : Nat) : Int)) st (r_num (v := .int .u64 ((u2 / v1 : Nat) : Int)) st rfl rfl rfl (run_quoN (by omega) (by omega) rfl _)) rfl rfl (by decide) ?_
            clear st a; intro a st
            refine xseg 1 st rfl ?_
            clear st a; intro a st
            refine x_nil ?_
            refine x_seq ?_
            refine x_region ?_
            refine xseg 3 st rfl ?_
            clear st a; intro a st
            refine xp st (.int .u64 ((u2 / v1 * v1 : Nat) : Int)) rfl (wu64 (q64 (Nat.lt_of_le_of_lt (Nat.div_mul_le_self _ _) (Nat.lt_trans hu2Y hY2))) (Int.natCast_mul _ _).symm) rfl rfl (by decide) ?_
            clear st a; intro a st
            refine xp st (.int .u64 ((u2 % v1 : Nat) : Int)) rfl (wu64 (q64 (Nat.lt_trans (Nat.mod_lt _ (by omega)) (Nat.lt_of_le_of_lt (by omega) hY2))) (smod _ _)) rfl rfl (by decide) ?_
            clear st a; intro a st
            refine xseg 1 st rfl ?_
            clear st a; intro a st
            refine x_nil ?_
            refine x_seq ?_
            refine wp_block ?_
            refine x_loop (G := Nat) (fun q2 a w => ∃ r2, St w0 [] 135 [(2, .int .u64 ((Y : Nat) : Int)), (8, .int .u64 ((lz y : Nat) : Int)), (9, .int .u64 ((v1 : Nat) : Int)), (10, .int .u64 ((v0 : Nat) : Int)), (11, .int .u64 ((u : Nat) : Int)), (13, .int .u64 ((w1 : Nat) : Int)), (14, .int .u64 ((w0' : Nat) : Int)), (15, .int .u64 ((q - 1 : Nat) : Int)), (16, .int .u64 ((r2 : Nat) : Int)), (17, .int .u64 ((u2 : Nat) : Int)), (18, .int .u64 ((q2 : Nat) : Int))] ([] : Hp) a w ∧ (q2 * v1 + r2 = u2) ∧ ((u2 * 4294967296 + w0') / (v1 * 4294967296 + v0) ≤ q2) ∧ (r2 < 4294967296)) (fun q2 => q2) (u2 / v1) ⟨_, st.pickTo [2, 8, 9, 10, 11, 13, 14, 15, 16, 17, 18] (by kernel_rfl), (by rw [Nat.mul_comm]; exact Nat.div_add_mod _ _), dig_ge (by omega) (by omega), Nat.lt_of_lt_of_le (Nat.mod_lt _ (by omega)) (by omega)⟩ ?_
            clear st a w; intro q2 a w ⟨r2, st, hqB, hQB, hrB⟩
            refine x_seq ?_
            refine x_seq ?_
            rcases Nat.lt_or_ge q2 4294967296 with hbB | hbB
            · skip
              refine x_region ?_
              refine xseg 1 st rfl ?_
              clear st a; intro a st
              refine xp st (.bool false) rfl (beq (decide_eq_false (by omega))) rfl rfl (by decide) ?_
              clear st a; intro a st
              refine xseg 1 st rfl ?_
              clear st a; intro a st
              refine x_unguard st (b := false) rfl rfl rfl ?_
              refine xseg 1 st rfl ?_
              clear st a; intro a st
              refine x_unguard st (b := false) rfl rfl rfl ?_
              refine xseg 1 st rfl ?_
              clear st a; intro a st
              refine x_unguard st (b := false) rfl rfl rfl ?_
              refine xp st (.int .u64 ((q2 * v0 : Nat) : Int)) rfl (wu64 (q64 (mul32 hbB (by unfold B32; omega))) (Int.natCast_mul _ _).symm) rfl rfl (by decide) ?_
              clear st a; intro a st
              refine x_unguard st (b := false) rfl rfl rfl ?_
              refine xseg 1 st rfl ?_
              clear st a; intro a st
              refine x_unguard st (b := false) rfl rfl rfl ?_
              refine xp st (.int .u64 ((4294967296 * r2 : Nat) : Int)) rfl (wu64 (by omega) (by omega)) rfl rfl (by decide) ?_
              clear st a; intro a st
              refine x_unguard st (b := false) rfl rfl rfl ?_
              refine xseg 1 st rfl ?_
              clear st a; intro a st
              refine x_unguard st (b := false) rfl rfl rfl ?_
              refine xp st (.int .u64 ((4294967296 * r2 + w0' : Nat) : Int)) rfl (wu64 (by omega) (by omega)) rfl rfl (by decide) ?_
              clear st a; intro a st
              refine x_unguard st (b := false) rfl rfl rfl ?_
              refine xseg 2 st rfl ?_
              clear st a; intro a st
              refine x_nil ?_
              refine x_condD st rfl (fun hcB => ?_) (fun hcB => ?_)
              · refine wp_skip ?_
                refine wp_block ?_
                refine x_seq ?_
                have hdB := dig_step (b := 4294967296) (w := w0') (v0 := v0) hqB hU0 (.inr (by omega))
                have hmB := q_le hqB (by omega)
                refine x_region ?_
                refine xseg 1 st rfl ?_
                clear st a; intro a st
                refine xp st (.int .u64 ((q2 - 1 : Nat) : Int)) rfl (wu64 (by omega) (by omega)) rfl rfl (by decide) ?_
                clear st a; intro a st
                refine xseg 1 st rfl ?_
                clear st a; intro a st
                refine x_nil ?_
                refine x_seq ?_
                refine x_region ?_
                refine xseg 2 st rfl ?_
                clear st a; intro a st
                refine xp st (.int .u64 ((r2 + v1 : Nat) : Int)) rfl (wu64 (by omega) (by omega)) rfl rfl (by decide) ?_
                clear st a; intro a st
                refine xseg 1 st rfl ?_
                clear st a; intro a st
                refine x_nil ?_
                refine x_seq ?_
                refine x_region ?_
                refine xseg 2 st rfl ?_
                clear st a; intro a st
                refine x_nil ?_
                refine x_condD st rfl (fun hxB => ?_) (fun hxB => ?_)
                · refine wp_exit ?_
                  refine x_outBlock (by decide) ?_
                  refine x_thenExit ?_
                  refine x_inBlock ?_
                  refine x_seq ?_
                  have heB : q2 - 1 = Q0 := by rw [hQ0.out, ← hYs]; exact dig_end (b := 4294967296) (dig_next hqB hdB.2) (by omega) (by omega) hdB.1 hU0 (.inr (by omega))
                  refine x_region ?_
                  refine xseg 1 st rfl ?_
                  clear st a; intro a st
                  refine xp st (.int .u64 ((Q1 * 4294967296 : Nat) : Int)) rfl (wu64 (by omega) (by omega)) rfl rfl (by decide) ?_
                  clear st a; intro a st
                  refine xseg 1 st rfl ?_
                  clear st a; intro a st
                  refine xp st (.int .u64 ((Q1 * 4294967296 + Q0 : Nat) : Int)) rfl (wu64 (by omega) (by omega)) rfl rfl (by decide) ?_
                  clear st a; intro a st
                  refine xseg 1 st rfl ?_
                  clear st a; intro a st
                  refine xp st (.int .u64 ((u2 * 4294967296 % 18446744073709551616 : Nat) : Int)) rfl (wu64m (by omega)) rfl rfl (by decide) ?_
                  clear st a; intro a st
                  refine xseg 1 st rfl ?_
                  clear st a; intro a st
                  refine xp st (.int .u64 (((u2 * 4294967296 + w0') % 18446744073709551616 : Nat) : Int)) rfl (wu64m (by omega)) rfl rfl (by decide) ?_
                  clear st a; intro a st
                  refine xseg 2 st rfl ?_
                  clear st a; intro a st
                  refine xp st (.int .u64 (((u2 * 4294967296 + w0') / Y * Y % 18446744073709551616 : Nat) : Int)) rfl (wu64m (by rw [heB, hQ0.out]; exact wrapmul _ _)) rfl rfl (by decide) ?_
                  clear st a; intro a st
                  refine xp st (.int .u64 ((r0 : Nat) : Int)) rfl (wu64m (by rw [hr0.out]; exact wrapmod (by omega) (by omega))) rfl rfl (by decide) ?_
                  clear st a; intro a st
                  refine xseg 1 st rfl ?_
                  clear st a; intro a st
                  refine x_run (v := .int .u64 ((r0 / 2 ^ lz y : Nat) : Int)) st (r_num (v := .int .u64 ((r0 / 2 ^ lz y : Nat) : Int)) st rfl rfl rfl (run_shrN rfl (by rw [hr0.out]; exact Nat.lt_trans (Nat.mod_lt _ (by omega)) hY2) _)) rfl rfl (by decide) ?_
                  clear st a; intro a st
                  refine xseg 2 st rfl ?_
                  clear st a; intro a st
                  refine x_nil ?_
                  refine x_wpret ?_
                  exact x_retp st [.int .u64 ((Q1 * 4294967296 + Q0 : Nat) : Int), .int .u64 ((r0 / 2 ^ lz y : Nat) : Int)] rfl ⟨rfl, rfl, trivial⟩ rfl (div64_post hs hy0 hu hn hwn hYe hQ1 hu2 hQ0 hr0)
                · refine wp_skip ?_
                  exact ⟨q2 - 1, ⟨_, st.pickTo [2, 8, 9, 10, 11, 13, 14, 15, 16, 17, 18] (by kernel_rfl), dig_next hqB hdB.2, hdB.1, by omega⟩, by omega⟩
              · refine wp_exit ?_
                refine x_thenExit ?_
                refine x_thenExit ?_
                refine x_inBlock ?_
                refine x_seq ?_
                have heB : q2 = Q0 := by rw [hQ0.out, ← hYs]; exact dig_end (b := 4294967296) hqB (by omega) (by omega) hQB hU0 (.inl (by omega))
                refine x_region ?_
                refine xseg 1 st rfl ?_
                clear st a; intro a st
                refine xp st (.int .u64 ((Q1 * 4294967296 : Nat) : Int)) rfl (wu64 (by omega) (by omega)) rfl rfl (by decide) ?_
                clear st a; intro a st
                refine xseg 1 st rfl ?_
                clear st a; intro a st
                refine xp st (.int .u64 ((Q1 * 4294967296 + Q0 : Nat) : Int)) rfl (wu64 (by omega) (by omega)) rfl rfl (by decide) ?_
                clear st a; intro a st
                refine xseg 1 st rfl ?_
                clear st a; intro a st
                refine xp st (.int .u64 ((u2 * 4294967296 % 18446744073709551616 : Nat) : Int)) rfl (wu64m (by omega)) rfl rfl (by decide) ?_
                clear st a; intro a st
                refine xseg 1 st rfl ?_
                clear st a; intro a st
                refine xp st (.int .u64 (((u2 * 4294967296 + w0') % 18446744073709551616 : Nat) : Int)) rfl (wu64m (by omega)) rfl rfl (by decide) ?_
                clear st a; intro a st
                refine xseg 2 st rfl ?_
                clear st a; intro a st
                refine xp st (.int .u64 (((u2 * 4294967296 + w0') / Y * Y % 18446744073709551616 : Nat) : Int)) rfl (wu64m (by rw [heB, hQ0.out]; exact wrapmul _ _)) rfl rfl (by decide) ?_
                clear st a; intro a st
                refine xp st (.int .u64 ((r0 : Nat) : Int)) rfl (wu64m (by rw [hr0.out]; exact wrapmod (by omega) (by omega))) rfl rfl (by decide) ?_
                clear st a; intro a st
                refine xseg 1 st rfl ?_
                clear st a; intro a st
                refine x_run (v := .int .u64 ((r0 / 2 ^ lz y : Nat) : Int)) st (r_num (v := .int .u64 ((r0 / 2 ^ lz y : Nat) : Int)) st rfl rfl rfl (run_shrN rfl (by rw [hr0.out]; exact Nat.lt_trans (Nat.mod_lt _ (by omega)) hY2) _)) rfl rfl (by decide) ?_
                clear st a; intro a st
                refine xseg 2 st rfl ?_
                clear st a; intro a st
                refine x_nil ?_
                refine x_wpret ?_
                exact x_retp st [.int .u64 ((Q1 * 4294967296 + Q0 : Nat) : Int), .int .u64 ((r0 / 2 ^ lz y : Nat) : Int)] rfl ⟨rfl, rfl, trivial⟩ rfl (div64_post hs hy0 hu hn hwn hYe hQ1 hu2 hQ0 hr0)
            · skip
              refine x_region ?_
              refine xseg 1 st rfl ?_
              clear st a; intro a st
              refine xp st (.bool true) rfl (beq (decide_eq_true (by omega))) rfl rfl (by decide) ?_
              clear st a; intro a st
              refine xseg 1 st rfl ?_
              clear st a; intro a st
              refine x_skip st (b := false) (c := true) rfl rfl rfl (by decide) rfl (by decide) ?_
              clear st a; intro a st
              refine x_skip st (b := false) (c := true) rfl rfl rfl (by decide) rfl (by decide) ?_
              clear st a; intro a st
              refine x_skip st (b := false) (c := true) rfl rfl rfl (by decide) rfl (by decide) ?_
              clear st a; intro a st
              refine x_skip st (b := false) (c := true) rfl rfl rfl (by decide) rfl (by decide) ?_
              clear st a; intro a st
              refine x_skip st (b := false) (c := true) rfl rfl rfl (by decide) rfl (by decide) ?_
              clear st a; intro a st
              refine x_skip st (b := false) (c := true) rfl rfl rfl (by decide) rfl (by decide) ?_
              clear st a; intro a st
              refine x_skip st (b := false) (c := true) rfl rfl rfl (by decide) rfl (by decide) ?_
              clear st a; intro a st
              refine x_skip st (b := false) (c := true) rfl rfl rfl (by decide) rfl (by decide) ?_
              clear st a; intro a st
              refine xseg 1 st rfl ?_
              clear st a; intro a st
              refine x_nil ?_
              refine x_condT st rfl ?_
              refine wp_skip ?_
              refine wp_block ?_
              refine x_seq ?_
              have hdB := dig_step (b := 4294967296) (w := w0') (v0 := v0) hqB hU0 (.inl hbB)
              have hmB := q_le hqB (by omega)
              refine x_region ?_
              refine xseg 1 st rfl ?_
              clear st a; intro a st
              refine xp st (.int .u64 ((q2 - 1 : Nat) : Int)) rfl (wu64 (by omega) (by omega)) rfl rfl (by decide) ?_
              clear st a; intro a st
              refine xseg 1 st rfl ?_
              clear st a; intro a st
              refine x_nil ?_
              refine x_seq ?_
              refine x_region ?_
              refine xseg 2 st rfl ?_
              clear st a; intro a st
              refine xp st (.int .u64 ((r2 + v1 : Nat) : Int)) rfl (wu64 (by omega) (by omega)) rfl rfl (by decide) ?_
              clear st a; intro a st
              refine xseg 1 st rfl ?_
              clear st a; intro a st
              refine x_nil ?_
              refine x_seq ?_
              refine x_region ?_
              refine xseg 2 st rfl ?_
              clear st a; intro a st
              refine x_nil ?_
              refine x_condD st rfl (fun hxB => ?_) (fun hxB => ?_)
              · refine wp_exit ?_
                refine x_outBlock (by decide) ?_
                refine x_thenExit ?_
                refine x_inBlock ?_
                refine x_seq ?_
                have heB : q2 - 1 = Q0 := by rw [hQ0.out, ← hYs]; exact dig_end (b := 4294967296) (dig_next hqB hdB.2) (by omega) (by omega) hdB.1 hU0 (.inr (by omega))
                refine x_region ?_
                refine xseg 1 st rfl ?_
                clear st a; intro a st
                refine xp st (.int .u64 ((Q1 * 4294967296 : Nat) : Int)) rfl (wu64 (by omega) (by omega)) rfl rfl (by decide) ?_
                clear st a; intro a st
                refine xseg 1 st rfl ?_
                clear st a; intro a st
                refine xp st (.int .u64 ((Q1 * 4294967296 + Q0 : Nat) : Int)) rfl (wu64 (by omega) (by omega)) rfl rfl (by decide) ?_
                clear st a; intro a st
                refine xseg 1 st rfl ?_
                clear st a; intro a st
                refine xp st (.int .u64 ((u2 * 4294967296 % 18446744073709551616 : Nat) : Int)) rfl (wu64m (by omega)) rfl rfl (by decide) ?_
                clear st a; intro a st
                refine xseg 1 st rfl ?_
                clear st a; intro a st
                refine xp st (.int .u64 (((u2 * 4294967296 + w0') % 18446744073709551616 : Nat) : Int)) rfl (wu64m (by omega)) rfl rfl (by decide) ?_
                clear st a; intro a st
                refine xseg 2 st rfl ?_
                clear st a; intro a st
                refine xp st (.int .u64 (((u2 * 4294967296 + w0') / Y * Y % 18446744073709551616 : Nat) : Int)) rfl (wu64m (by rw [heB, hQ0.out]; exact wrapmul _ _)) rfl rfl (by decide) ?_
                clear st a; intro a st
                refine xp st (.int .u64 ((r0 : Nat) : Int)) rfl (wu64m (by rw [hr0.out]; exact wrapmod (by omega) (by omega))) rfl rfl (by decide) ?_
                clear st a; intro a st
                refine xseg 1 st rfl ?_
                clear st a; intro a st
                refine x_run (v := .int .u64 ((r0 / 2 ^ lz y : Nat) : Int)) st (r_num (v := .int .u64 ((r0 / 2 ^ lz y : Nat) : Int)) st rfl rfl rfl (run_shrN rfl (by rw [hr0.out]; exact Nat.lt_trans (Nat.mod_lt _ (by omega)) hY2) _)) rfl rfl (by decide) ?_
                clear st a; intro a st
                refine xseg 2 st rfl ?_
                clear st a; intro a st
                refine x_nil ?_
                refine x_wpret ?_
                exact x_retp st [.int .u64 ((Q1 * 4294967296 + Q0 : Nat) : Int), .int .u64 ((r0 / 2 ^ lz y : Nat) : Int)] rfl ⟨rfl, rfl, trivial⟩ rfl (div64_post hs hy0 hu hn hwn hYe hQ1 hu2 hQ0 hr0)
              · refine wp_skip ?_
                exact ⟨q2 - 1, ⟨_, st.pickTo [2, 8, 9, 10, 11, 13, 14, 15, 16, 17, 18] (by kernel_rfl), dig_next hqB hdB.2, hdB.1, by omega⟩, by omega⟩
          · refine wp_skip ?_
            exact ⟨q - 1, ⟨_, st.pickTo [2, 8, 9, 10, 11, 13, 14, 15, 16] (by kernel_rfl), dig_next hqA hdA.2, hdA.1, by omega⟩, by omega⟩

end Go.Proofs.YtnkbhmonceiocaaDoor
