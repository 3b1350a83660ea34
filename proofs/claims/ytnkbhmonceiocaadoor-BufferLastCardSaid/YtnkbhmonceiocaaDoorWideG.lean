/-
  The package wide of the program: guess: a digit of a long division.
-/
import Derived.Test.YtnkbhmonceiocaaDoorWideF
import Derived.Test.YtnkbhmonceiocaaDoorGuessP
namespace Go.Proofs.YtnkbhmonceiocaaDoor
open Go Go.RowKit
namespace FWideG
theorem add64 (x y c : Nat) (hx : x < BB) (hy : y < BB) (hc : c ≤ 1) (w : World) : (callFunc 40 #[.int .u64 x, .int .u64 y, .int .u64 c]).run Tryd.prog w =
    .ok (.value (.tuple #[.int .u64 (((x + y + c) % BB : Nat) : Int), .int .u64 (((x + y + c) / BB : Nat) : Int)])) w := by
  rw [run_callFunc_extern Tryd.func40 (by kernel_rfl) (by kernel_rfl) (by kernel_rfl) (e := add64Entry) (by kernel_rfl), run_add64 x y c (by omega) (by omega) (by omega) (by omega)]
  simp only [Result.andThen]
  congr 5 <;> omega
theorem ent32 (args : Array Value) (w : World) : (callFunc 32 args).run Tryd.prog w = .ok (.enter 32 args) w := enters_at Tryd.func32 (by kernel_rfl) rfl args w
theorem ent68 (args : Array Value) (w : World) : (callFunc 68 args).run Tryd.prog w = .ok (.enter 68 args) w := enters_at Tryd.func68 (by kernel_rfl) rfl args w
end FWideG
open FWideG
set_option maxRecDepth 20000 in
set_option maxHeartbeats 1000000 in
theorem guess_ok  (u2 u1 u0 v1 v0 : Nat) (h2 : u2 < BB) (h1 : u1 < BB) (h0 : u0 < BB) (hv1 : v1 < BB) (hv0 : v0 < BB) (hle : u2 ≤ v1) (hp : 0 < v1) (w0 : World) :
    Fn Tryd.prog 67 [.int .u64 ((u2 : Nat) : Int), .int .u64 ((u1 : Nat) : Int), .int .u64 ((u0 : Nat) : Int), .int .u64 ((v1 : Nat) : Int), .int .u64 ((v0 : Nat) : Int)] w0 [] (fun r _ => ∃ q : Nat, r = .int .u64 (q : Nat) ∧ GuessOk u2 u1 u0 v1 v0 q) := by
  have hBB : BB = 18446744073709551616 := rfl
  refine x_enter' (n := 63) Tryd.func67 rfl rfl (Nat.le_of_ble_eq_true rfl) fun a w st => ?_
  refine x_seq ?_
  refine x_region ?_
  refine xseg 1 st rfl ?_
  clear st a; intro a st
  refine x_nil ?_
  refine x_seq ?_
  refine x_region ?_
  refine xseg 3 st rfl ?_
  clear st a; intro a st
  refine x_nil ?_
  refine x_seq ?_
  refine x_region ?_
  refine xseg 1 st rfl ?_
  clear st a; intro a st
  refine x_nil ?_
  refine x_seq ?_
  refine x_seq ?_
  refine x_region ?_
  refine xseg 3 st rfl ?_
  clear st a; intro a st
  refine x_nil ?_
  refine x_condD st rfl (fun h3 => ?_) (fun h3 => ?_)
  · refine x_region ?_
    refine xseg 3 st rfl ?_
    clear st a; intro a st
    refine x_call st rfl rfl ent68 rfl rfl (by decide) ((Div64_ok u2 u1 v1 h1 hv1 (by omega) _)) ?_
    intro a1 w1 v1 hk1 hv hn st1; subst hv
    clear hn hk1 st a w; revert st1; revert a1; revert w1; intro w a st
    refine xseg 5 st rfl ?_
    clear st a; intro a st
    refine x_nil ?_
    refine x_seq ?_
    refine wp_block ?_
    have hlt : (u2 * BB + u1) / v1 < BB := gs_init h1 (by omega)
    have hm : (u2 * BB + u1) % v1 < BB := Nat.lt_trans (Nat.mod_lt _ hp) hv1
    have hz1 : (u2 * BB + u1) % v1 % BB = (u2 * BB + u1) % v1 := Nat.mod_eq_of_lt hm
    have hz2 : (u2 * BB + u1) % v1 / BB = 0 := Nat.div_eq_of_lt hm
    refine x_loop (G := Nat) (fun q a w => ∃ r, St w0 [] 63 [(2, .int .u64 ((u0 : Nat) : Int)), (3, .int .u64 ((v1 : Nat) : Int)), (4, .int .u64 ((v0 : Nat) : Int)), (11, .int .u64 ((q : Nat) : Int)), (12, .int .u64 ((r % BB : Nat) : Int)), (13, .int .u64 ((r / BB : Nat) : Int))] ([] : Hp) a w ∧ (q < BB) ∧ (q * v1 + r = (u2 * BB + u1)) ∧ (q = BB - 1 ∨ (u2 * BB + u1) * BB + u0 < (q + 1) * (v1 * BB + v0))) (fun q => q) ((u2 * BB + u1) / v1) ⟨((u2 * BB + u1) % v1), (St.cast (st.pickTo [2, 3, 4, 11, 12, 13] (by kernel_rfl)) (by rw [hz1, hz2]) rfl), hlt, Nat.div_add_mod' _ _, .inr (gs_top h0 (gs_init3 hp))⟩ ?_
    clear st a w; intro q a w ⟨r, st, hqb, hq, hor⟩
    refine x_seq ?_
    refine x_seq ?_
    refine x_region ?_
    refine xseg 2 st rfl ?_
    clear st a; intro a st
    refine x_nil ?_
    refine x_condE st rfl (fun h6 => ?_) (fun h6 => ?_)
    · refine wp_skip ?_
      refine wp_block ?_
      refine x_seq ?_
      have hr : r < BB := by rcases Nat.lt_or_ge r BB with h | h; exact h; exact absurd h6 (by have := Nat.div_pos h (by decide : 0 < BB); omega)
      have hrm : r % BB = r := Nat.mod_eq_of_lt hr
      refine x_region ?_
      refine xseg 2 st rfl ?_
      clear st a; intro a st
      refine x_call st rfl rfl ent32 rfl rfl (by decide) (Mul64_ok q v0 (by first | exact limb_lt _ _ | assumption | exact Nat.mod_lt _ (by decide) | omega) (by first | exact limb_lt _ _ | assumption | exact Nat.mod_lt _ (by decide) | omega) _) ?_
      intro a1 w1 v1 hk1 hv hn st1; subst hv
      clear hn hk1 st a w; revert st1; revert a1; revert w1; intro w a st
      refine xseg 5 st rfl ?_
      clear st a; intro a st
      refine x_nil ?_
      refine x_seq ?_
      refine x_seq ?_
      rcases Nat.lt_trichotomy (q * v0 / BB) r with hc | hc | hc
      · skip
        refine x_region ?_
        refine xseg 2 st rfl ?_
        clear st a; intro a st
        refine xp st (.bool true) rfl (beq (decide_eq_true (by omega))) rfl rfl (by decide) ?_
        clear st a; intro a st
        refine xseg 1 st rfl ?_
        clear st a; intro a st
        refine x_skip st (b := false) (c := true) rfl rfl rfl (by decide) rfl (by decide) ?_
        clear st a; intro a st
        refine x_skip st (b := false) (c := true) rfl rfl rfl (by decide) rfl (by decide) ?_
        clear st a; intro a st
        refine x_skip st (b := false) (c := true) rfl rfl rfl (by decide) rfl (by decide) ?_
        clear st a; intro a st
        refine x_skip st (b := false) (c := true) rfl rfl rfl (by decide) rfl (by decide) ?_
        clear st a; intro a st
        refine x_skipU st (b := true) rfl rfl rfl rfl (by decide) ?_
        clear st a; intro a st
        refine x_skipU st (b := true) rfl rfl rfl rfl (by decide) ?_
        clear st a; intro a st
        refine x_skipU st (b := true) rfl rfl rfl rfl (by decide) ?_
        clear st a; intro a st
        refine x_skip st (b := false) (c := true) rfl rfl rfl (by decide) rfl (by decide) ?_
        clear st a; intro a st
        refine xseg 1 st rfl ?_
        clear st a; intro a st
        refine x_nil ?_
        refine x_condT st rfl ?_
        refine wp_exit ?_
        refine x_thenExit ?_
        refine x_outBlock (by decide) ?_
        refine x_thenExit ?_
        refine x_inBlock ?_
        refine x_seq ?_
        refine x_region ?_
        refine xseg 2 st rfl ?_
        clear st a; intro a st
        refine x_nil ?_
        refine x_wpret ?_
        exact x_retp st [.int .u64 ((q : Nat) : Int)] rfl ⟨rfl, trivial⟩ rfl (⟨q, rfl, hqb, gs_le hq (gs_cmp_lt (by decide) hc), hor⟩)
      · skip
        refine x_region ?_
        refine xseg 2 st rfl ?_
        clear st a; intro a st
        refine xp st (.bool false) rfl (beq (decide_eq_false (by omega))) rfl rfl (by decide) ?_
        clear st a; intro a st
        refine xseg 1 st rfl ?_
        clear st a; intro a st
        refine x_unguard st (b := false) rfl rfl rfl ?_
        refine xseg 1 st rfl ?_
        clear st a; intro a st
        refine x_unguard st (b := false) rfl rfl rfl ?_
        refine xseg 1 st rfl ?_
        clear st a; intro a st
        refine x_unguard st (b := false) rfl rfl rfl ?_
        refine xp st (.bool true) rfl (beq (by rw [hrm, hc]; exact beq_self_eq_true _)) rfl rfl (by decide) ?_
        clear st a; intro a st
        refine x_unguard st (b := false) rfl rfl rfl ?_
        refine xseg 1 st rfl ?_
        clear st a; intro a st
        refine x_unguard st (b := true) rfl rfl rfl ?_
        refine xseg 1 st rfl ?_
        clear st a; intro a st
        refine x_unguard st (b := true) rfl rfl rfl ?_
        refine xseg 1 st rfl ?_
        clear st a; intro a st
        refine x_unguard st (b := true) rfl rfl rfl ?_
        refine xseg 1 st rfl ?_
        clear st a; intro a st
        refine x_unguard st (b := false) rfl rfl rfl ?_
        refine xseg 2 st rfl ?_
        clear st a; intro a st
        refine x_nil ?_
        refine x_condD st rfl (fun h8 => ?_) (fun h8 => ?_)
        · refine wp_exit ?_
          refine x_thenExit ?_
          refine x_outBlock (by decide) ?_
          refine x_thenExit ?_
          refine x_inBlock ?_
          refine x_seq ?_
          refine x_region ?_
          refine xseg 2 st rfl ?_
          clear st a; intro a st
          refine x_nil ?_
          refine x_wpret ?_
          exact x_retp st [.int .u64 ((q : Nat) : Int)] rfl ⟨rfl, trivial⟩ rfl (⟨q, rfl, hqb, gs_le hq ((gs_cmp_eq hc).2 (by omega)), hor⟩)
        · refine wp_skip ?_
          refine x_seq ?_
          have hnx : _ ∧ 1 ≤ q := gs_next (b := BB) (u0 := u0) (v0 := v0) hq (Nat.lt_of_not_le fun hh => h8 (by have := (gs_cmp_eq hc).1 hh; omega))
          refine x_region ?_
          refine xseg 1 st rfl ?_
          clear st a; intro a st
          refine xp st (.int .u64 ((q - 1 : Nat) : Int)) rfl (wu64 (by omega) (by omega)) rfl rfl (by decide) ?_
          clear st a; intro a st
          refine xseg 1 st rfl ?_
          clear st a; intro a st
          refine x_nil ?_
          refine x_region ?_
          refine xseg 2 st rfl ?_
          clear st a; intro a st
          refine x_run (v := .tuple #[.int .u64 (((r % BB + v1 + 0) % BB : Nat) : Int), .int .u64 (((r % BB + v1 + 0) / BB : Nat) : Int)]) st (r_extern st rfl rfl (add64 (r % BB) v1 0 (by first | exact limb_lt _ _ | assumption | exact Nat.mod_lt _ (by decide) | omega) (by first | exact limb_lt _ _ | assumption | exact Nat.mod_lt _ (by decide) | omega) (by omega) _)) rfl rfl (by decide) ?_
          clear st a; intro a st
          refine xseg 1 st rfl ?_
          clear st a; intro a st
          refine xp st (.int .u64 (((r + v1) % BB : Nat) : Int)) rfl (ieq (by rw [hrm, Nat.add_zero])) rfl rfl (by decide) ?_
          clear st a; intro a st
          refine xp st (.int .u64 (((r + v1) / BB : Nat) : Int)) rfl (ieq (by rw [hrm, Nat.add_zero])) rfl rfl (by decide) ?_
          clear st a; intro a st
          refine xseg 2 st rfl ?_
          clear st a; intro a st
          refine x_nil ?_
          exact ⟨q - 1, ⟨_, st.pickTo [2, 3, 4, 11, 12, 13] (by kernel_rfl), by omega, dig_next hq hnx.2, .inr hnx.1⟩, by omega⟩
      · skip
        refine x_region ?_
        refine xseg 2 st rfl ?_
        clear st a; intro a st
        refine xp st (.bool false) rfl (beq (decide_eq_false (by omega))) rfl rfl (by decide) ?_
        clear st a; intro a st
        refine xseg 1 st rfl ?_
        clear st a; intro a st
        refine x_unguard st (b := false) rfl rfl rfl ?_
        refine xseg 1 st rfl ?_
        clear st a; intro a st
        refine x_unguard st (b := false) rfl rfl rfl ?_
        refine xseg 1 st rfl ?_
        clear st a; intro a st
        refine x_unguard st (b := false) rfl rfl rfl ?_
        refine xp st (.bool false) rfl (beq (beq_eq_false_iff_ne.2 (by omega))) rfl rfl (by decide) ?_
        clear st a; intro a st
        refine x_unguard st (b := false) rfl rfl rfl ?_
        refine xseg 1 st rfl ?_
        clear st a; intro a st
        refine x_skip st (b := true) (c := false) rfl rfl rfl (by decide) rfl (by decide) ?_
        clear st a; intro a st
        refine x_skip st (b := true) (c := false) rfl rfl rfl (by decide) rfl (by decide) ?_
        clear st a; intro a st
        refine x_skip st (b := true) (c := false) rfl rfl rfl (by decide) rfl (by decide) ?_
        clear st a; intro a st
        refine x_unguard st (b := false) rfl rfl rfl ?_
        refine xseg 2 st rfl ?_
        clear st a; intro a st
        refine x_nil ?_
        refine x_condF st rfl ?_
        refine wp_skip ?_
        refine x_seq ?_
        have hnx : _ ∧ 1 ≤ q := gs_next (b := BB) (u0 := u0) (v0 := v0) hq (gs_cmp_gt h0 hc)
        refine x_region ?_
        refine xseg 1 st rfl ?_
        clear st a; intro a st
        refine xp st (.int .u64 ((q - 1 : Nat) : Int)) rfl (wu64 (by omega) (by omega)) rfl rfl (by decide) ?_
        clear st a; intro a st
        refine xseg 1 st rfl ?_
        clear st a; intro a st
        refine x_nil ?_
        refine x_region ?_
        refine xseg 2 st rfl ?_
        clear st a; intro a st
        refine x_run (v := .tuple #[.int .u64 (((r % BB + v1 + 0) % BB : Nat) : Int), .int .u64 (((r % BB + v1 + 0) / BB : Nat) : Int)]) st (r_extern st rfl rfl (add64 (r % BB) v1 0 (by first | exact limb_lt _ _ | assumption | exact Nat.mod_lt _ (by decide) | omega) (by first | exact limb_lt _ _ | assumption | exact Nat.mod_lt _ (by decide) | omega) (by omega) _)) rfl rfl (by decide) ?_
        clear st a; intro a st
        refine xseg 1 st rfl ?_
        clear st a; intro a st
        refine xp st (.int .u64 (((r + v1) % BB : Nat) : Int)) rfl (ieq (by rw [hrm, Nat.add_zero])) rfl rfl (by decide) ?_
        clear st a; intro a st
        refine xp st (.int .u64 (((r + v1) / BB : Nat) : Int)) rfl (ieq (by rw [hrm, Nat.add_zero])) rfl rfl (by decide) ?_
        clear st a; intro a st
        refine xseg 2 st rfl ?_
        clear st a; intro a st
        refine x_nil ?_
        exact ⟨q - 1, ⟨_, st.pickTo [2, 3, 4, 11, 12, 13] (by kernel_rfl), by omega, dig_next hq hnx.2, .inr hnx.1⟩, by omega⟩
    · refine wp_exit ?_
      refine x_thenExit ?_
      refine x_thenExit ?_
      refine x_inBlock ?_
      refine x_seq ?_
      refine x_region ?_
      refine xseg 2 st rfl ?_
      clear st a; intro a st
      refine x_nil ?_
      refine x_wpret ?_
      exact x_retp st [.int .u64 ((q : Nat) : Int)] rfl ⟨rfl, trivial⟩ rfl (⟨q, rfl, hqb, gs_over hq hqb hv0 (by rcases Nat.lt_or_ge r BB with h | h; exact absurd (by rw [Nat.div_eq_of_lt h]; rfl) h6; exact h), hor⟩)
  · refine x_region ?_
    refine xseg 2 st rfl ?_
    clear st a; intro a st
    refine x_run (v := .tuple #[.int .u64 (((u1 + v1 + 0) % BB : Nat) : Int), .int .u64 (((u1 + v1 + 0) / BB : Nat) : Int)]) st (r_extern st rfl rfl (add64 u1 v1 0 (by first | exact limb_lt _ _ | assumption | exact Nat.mod_lt _ (by decide) | omega) (by first | exact limb_lt _ _ | assumption | exact Nat.mod_lt _ (by decide) | omega) (by omega) _)) rfl rfl (by decide) ?_
    clear st a; intro a st
    refine xseg 5 st rfl ?_
    clear st a; intro a st
    refine x_nil ?_
    refine x_seq ?_
    refine wp_block ?_
    have e21 : u2 = v1 := by omega
    refine x_loop (G := Nat) (fun q a w => ∃ r, St w0 [] 63 [(2, .int .u64 ((u0 : Nat) : Int)), (3, .int .u64 ((v1 : Nat) : Int)), (4, .int .u64 ((v0 : Nat) : Int)), (11, .int .u64 ((q : Nat) : Int)), (12, .int .u64 ((r % BB : Nat) : Int)), (13, .int .u64 ((r / BB : Nat) : Int))] ([] : Hp) a w ∧ (q < BB) ∧ (q * v1 + r = (u2 * BB + u1)) ∧ (q = BB - 1 ∨ (u2 * BB + u1) * BB + u0 < (q + 1) * (v1 * BB + v0))) (fun q => q) (BB - 1) ⟨(u1 + v1 + 0), st.pickTo [2, 3, 4, 11, 12, 13] (by kernel_rfl), by decide, (by rw [e21]; exact gs_init2 _ _), .inl rfl⟩ ?_
    clear st a w; intro q a w ⟨r, st, hqb, hq, hor⟩
    refine x_seq ?_
    refine x_seq ?_
    refine x_region ?_
    refine xseg 2 st rfl ?_
    clear st a; intro a st
    refine x_nil ?_
    refine x_condE st rfl (fun h6 => ?_) (fun h6 => ?_)
    · refine wp_skip ?_
      refine wp_block ?_
      refine x_seq ?_
      have hr : r < BB := by rcases Nat.lt_or_ge r BB with h | h; exact h; exact absurd h6 (by have := Nat.div_pos h (by decide : 0 < BB); omega)
      have hrm : r % BB = r := Nat.mod_eq_of_lt hr
      refine x_region ?_
      refine xseg 2 st rfl ?_
      clear st a; intro a st
      refine x_call st rfl rfl ent32 rfl rfl (by decide) (Mul64_ok q v0 (by first | exact limb_lt _ _ | assumption | exact Nat.mod_lt _ (by decide) | omega) (by first | exact limb_lt _ _ | assumption | exact Nat.mod_lt _ (by decide) | omega) _) ?_
      intro a1 w1 v1 hk1 hv hn st1; subst hv
      clear hn hk1 st a w; revert st1; revert a1; revert w1; intro w a st
      refine xseg 5 st rfl ?_
      clear st a; intro a st
      refine x_nil ?_
      refine x_seq ?_
      refine x_seq ?_
      rcases Nat.lt_trichotomy (q * v0 / BB) r with hc | hc | hc
      · skip
        refine x_region ?_
        refine xseg 2 st rfl ?_
        clear st a; intro a st
        refine xp st (.bool true) rfl (beq (decide_eq_true (by omega))) rfl rfl (by decide) ?_
        clear st a; intro a st
        refine xseg 1 st rfl ?_
        clear st a; intro a st
        refine x_skip st (b := false) (c := true) rfl rfl rfl (by decide) rfl (by decide) ?_
        clear st a; intro a st
        refine x_skip st (b := false) (c := true) rfl rfl rfl (by decide) rfl (by decide) ?_
        clear st a; intro a st
        refine x_skip st (b := false) (c := true) rfl rfl rfl (by decide) rfl (by decide) ?_
        clear st a; intro a st
        refine x_skip st (b := false) (c := true) rfl rfl rfl (by decide) rfl (by decide) ?_
        clear st a; intro a st
        refine x_skipU st (b := true) rfl rfl rfl rfl (by decide) ?_
        clear st a; intro a st
        refine x_skipU st (b := true) rfl rfl rfl rfl (by decide) ?_
        clear st a; intro a st
        refine x_skipU st (b := true) rfl rfl rfl rfl (by decide) ?_
        clear st a; intro a st
        refine x_skip st (b := false) (c := true) rfl rfl rfl (by decide) rfl (by decide) ?_
        clear st a; intro a st
        refine xseg 1 st rfl ?_
        clear st a; intro a st
        refine x_nil ?_
        refine x_condT st rfl ?_
        refine wp_exit ?_
        refine x_thenExit ?_
        refine x_outBlock (by decide) ?_
        refine x_thenExit ?_
        refine x_inBlock ?_
        refine x_seq ?_
        refine x_region ?_
        refine xseg 2 st rfl ?_
        clear st a; intro a st
        refine x_nil ?_
        refine x_wpret ?_
        exact x_retp st [.int .u64 ((q : Nat) : Int)] rfl ⟨rfl, trivial⟩ rfl (⟨q, rfl, hqb, gs_le hq (gs_cmp_lt (by decide) hc), hor⟩)
      · skip
        refine x_region ?_
        refine xseg 2 st rfl ?_
        clear st a; intro a st
        refine xp st (.bool false) rfl (beq (decide_eq_false (by omega))) rfl rfl (by decide) ?_
        clear st a; intro a st
        refine xseg 1 st rfl ?_
        clear st a; intro a st
        refine x_unguard st (b := false) rfl rfl rfl ?_
        refine xseg 1 st rfl ?_
        clear st a; intro a st
        refine x_unguard st (b := false) rfl rfl rfl ?_
        refine xseg 1 st rfl ?_
        clear st a; intro a st
        refine x_unguard st (b := false) rfl rfl rfl ?_
        refine xp st (.bool true) rfl (beq (by rw [hrm, hc]; exact beq_self_eq_true _)) rfl rfl (by decide) ?_
        clear st a; intro a st
        refine x_unguard st (b := false) rfl rfl rfl ?_
        refine xseg 1 st rfl ?_
        clear st a; intro a st
        refine x_unguard st (b := true) rfl rfl rfl ?_
        refine xseg 1 st rfl ?_
        clear st a; intro a st
        refine x_unguard st (b := true) rfl rfl rfl ?_
        refine xseg 1 st rfl ?_
        clear st a; intro a st
        refine x_unguard st (b := true) rfl rfl rfl ?_
        refine xseg 1 st rfl ?_
        clear st a; intro a st
        refine x_unguard st (b := false) rfl rfl rfl ?_
        refine xseg 2 st rfl ?_
        clear st a; intro a st
        refine x_nil ?_
        refine x_condD st rfl (fun h8 => ?_) (fun h8 => ?_)
        · refine wp_exit ?_
          refine x_thenExit ?_
          refine x_outBlock (by decide) ?_
          refine x_thenExit ?_
          refine x_inBlock ?_
          refine x_seq ?_
          refine x_region ?_
          refine xseg 2 st rfl ?_
          clear st a; intro a st
          refine x_nil ?_
          refine x_wpret ?_
          exact x_retp st [.int .u64 ((q : Nat) : Int)] rfl ⟨rfl, trivial⟩ rfl (⟨q, rfl, hqb, gs_le hq ((gs_cmp_eq hc).2 (by omega)), hor⟩)
        · refine wp_skip ?_
          refine x_seq ?_
          have hnx : _ ∧ 1 ≤ q := gs_next (b := BB) (u0 := u0) (v0 := v0) hq (Nat.lt_of_not_le fun hh => h8 (by have := (gs_cmp_eq hc).1 hh; omega))
          refine x_region ?_
          refine xseg 1 st rfl ?_
          clear st a; intro a st
          refine xp st (.int .u64 ((q - 1 : Nat) : Int)) rfl (wu64 (by omega) (by omega)) rfl rfl (by decide) ?_
          clear st a; intro a st
          refine xseg 1 st rfl ?_
          clear st a; intro a st
          refine x_nil ?_
          refine x_region ?_
          refine xseg 2 st rfl ?_
          clear st a; intro a st
          refine x_run (v := .tuple #[.int .u64 (((r % BB + v1 + 0) % BB : Nat) : Int), .int .u64 (((r % BB + v1 + 0) / BB : Nat) : Int)]) st (r_extern st rfl rfl (add64 (r % BB) v1 0 (by first | exact limb_lt _ _ | assumption | exact Nat.mod_lt _ (by decide) | omega) (by first | exact limb_lt _ _ | assumption | exact Nat.mod_lt _ (by decide) | omega) (by omega) _)) rfl rfl (by decide) ?_
          clear st a; intro a st
          refine xseg 1 st rfl ?_
          clear st a; intro a st
          refine xp st (.int .u64 (((r + v1) % BB : Nat) : Int)) rfl (ieq (by rw [hrm, Nat.add_zero])) rfl rfl (by decide) ?_
          clear st a; intro a st
          refine xp st (.int .u64 (((r + v1) / BB : Nat) : Int)) rfl (ieq (by rw [hrm, Nat.add_zero])) rfl rfl (by decide) ?_
          clear st a; intro a st
          refine xseg 2 st rfl ?_
          clear st a; intro a st
          refine x_nil ?_
          exact ⟨q - 1, ⟨_, st.pickTo [2, 3, 4, 11, 12, 13] (by kernel_rfl), by omega, dig_next hq hnx.2, .inr hnx.1⟩, by omega⟩
      · skip
        refine x_region ?_
        refine xseg 2 st rfl ?_
        clear st a; intro a st
        refine xp st (.bool false) rfl (beq (decide_eq_false (by omega))) rfl rfl (by decide) ?_
        clear st a; intro a st
        refine xseg 1 st rfl ?_
        clear st a; intro a st
        refine x_unguard st (b := false) rfl rfl rfl ?_
        refine xseg 1 st rfl ?_
        clear st a; intro a st
        refine x_unguard st (b := false) rfl rfl rfl ?_
        refine xseg 1 st rfl ?_
        clear st a; intro a st
        refine x_unguard st (b := false) rfl rfl rfl ?_
        refine xp st (.bool false) rfl (beq (beq_eq_false_iff_ne.2 (by omega))) rfl rfl (by decide) ?_
        clear st a; intro a st
        refine x_unguard st (b := false) rfl rfl rfl ?_
        refine xseg 1 st rfl ?_
        clear st a; intro a st
        refine x_skip st (b := true) (c := false) rfl rfl rfl (by decide) rfl (by decide) ?_
        clear st a; intro a st
        refine x_skip st (b := true) (c := false) rfl rfl rfl (by decide) rfl (by decide) ?_
        clear st a; intro a st
        refine x_skip st (b := true) (c := false) rfl rfl rfl (by decide) rfl (by decide) ?_
        clear st a; intro a st
        refine x_unguard st (b := false) rfl rfl rfl ?_
        refine xseg 2 st rfl ?_
        clear st a; intro a st
        refine x_nil ?_
        refine x_condF st rfl ?_
        refine wp_skip ?_
        refine x_seq ?_
        have hnx : _ ∧ 1 ≤ q := gs_next (b := BB) (u0 := u0) (v0 := v0) hq (gs_cmp_gt h0 hc)
        refine x_region ?_
        refine xseg 1 st rfl ?_
        clear st a; intro a st
        refine xp st (.int .u64 ((q - 1 : Nat) : Int)) rfl (wu64 (by omega) (by omega)) rfl rfl (by decide) ?_
        clear st a; intro a st
        refine xseg 1 st rfl ?_
        clear st a; intro a st
        refine x_nil ?_
        refine x_region ?_
        refine xseg 2 st rfl ?_
        clear st a; intro a st
        refine x_run (v := .tuple #[.int .u64 (((r % BB + v1 + 0) % BB : Nat) : Int), .int .u64 (((r % BB + v1 + 0) / BB : Nat) : Int)]) st (r_extern st rfl rfl (add64 (r % BB) v1 0 (by first | exact limb_lt _ _ | assumption | exact Nat.mod_lt _ (by decide) | omega) (by first | exact limb_lt _ _ | assumption | exact Nat.mod_lt _ (by decide) | omega) (by omega) _)) rfl rfl (by decide) ?_
        clear st a; intro a st
        refine xseg 1 st rfl ?_
        clear st a; intro a st
        refine xp st (.int .u64 (((r + v1) % BB : Nat) : Int)) rfl (ieq (by rw [hrm, Nat.add_zero])) rfl rfl (by decide) ?_
        clear st a; intro a st
        refine xp st (.int .u64 (((r + v1) / BB : Nat) : Int)) rfl (ieq (by rw [hrm, Nat.add_zero])) rfl rfl (by decide) ?_
        clear st a; intro a st
        refine xseg 2 st rfl ?_
        clear st a; intro a st
        refine x_nil ?_
        exact ⟨q - 1, ⟨_, st.pickTo [2, 3, 4, 11, 12, 13] (by kernel_rfl), by omega, dig_next hq hnx.2, .inr hnx.1⟩, by omega⟩
    · refine wp_exit ?_
      refine x_thenExit ?_
      refine x_thenExit ?_
      refine x_inBlock ?_
      refine x_seq ?_
      refine x_region ?_
      refine xseg 2 st rfl ?_
      clear st a; intro a st
      refine x_nil ?_
      refine x_wpret ?_
      exact x_retp st [.int .u64 ((q : Nat) : Int)] rfl ⟨rfl, trivial⟩ rfl (⟨q, rfl, hqb, gs_over hq hqb hv0 (by rcases Nat.lt_or_ge r BB with h | h; exact absurd (by rw [Nat.div_eq_of_lt h]; rfl) h6; exact h), hor⟩)

end Go.Proofs.YtnkbhmonceiocaaDoor
