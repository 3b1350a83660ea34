/-
  The packages fx and dead of the program: Root, Sqrt, Hypot, Amount, Far.
-/
import Derived.Test.YtnkbhmonceiocaaDoorWideK
import Derived.Test.YtnkbhmonceiocaaDoorCircP
import Derived.Test.YtnkbhmonceiocaaDoorRun2
namespace Go.Proofs.YtnkbhmonceiocaaDoor
open Go Go.RowKit
namespace FFx
theorem ent18 (args : Array Value) (w : World) : (callFunc 18 args).run Tryd.prog w = .ok (.enter 18 args) w := enters_at Tryd.func18 (by kernel_rfl) rfl args w
theorem ent32 (args : Array Value) (w : World) : (callFunc 32 args).run Tryd.prog w = .ok (.enter 32 args) w := enters_at Tryd.func32 (by kernel_rfl) rfl args w
theorem ent48 (args : Array Value) (w : World) : (callFunc 48 args).run Tryd.prog w = .ok (.enter 48 args) w := enters_at Tryd.func48 (by kernel_rfl) rfl args w
theorem ent49 (args : Array Value) (w : World) : (callFunc 49 args).run Tryd.prog w = .ok (.enter 49 args) w := enters_at Tryd.func49 (by kernel_rfl) rfl args w
theorem ent50 (args : Array Value) (w : World) : (callFunc 50 args).run Tryd.prog w = .ok (.enter 50 args) w := enters_at Tryd.func50 (by kernel_rfl) rfl args w
theorem o25_0 : fieldOff Tryd.prog 25 0 = some 0 := by kernel_rfl
theorem o25_1 : fieldOff Tryd.prog 25 1 = some 1 := by kernel_rfl
theorem u2 : Tryd.prog.underlying 2 = some (.int .i64) := by kernel_rfl
theorem u3 : Tryd.prog.underlying 3 = some (.int .i64) := by kernel_rfl
theorem u45 : Tryd.prog.underlying 45 = some (.int .u64) := by kernel_rfl
theorem u68 : Tryd.prog.underlying 68 = some (.int .u64) := by kernel_rfl
theorem u90 : Tryd.prog.underlying 90 = some (.int .u32) := by kernel_rfl
end FFx
open FFx
set_option maxRecDepth 20000 in
set_option maxHeartbeats 1000000 in
theorem Root_ok  (hi lo : Nat) (hhi : hi < BB) (hlo : lo < BB) (w0 : World) :
    Fn Tryd.prog 18 [.int .u64 ((hi : Nat) : Int), .int .u64 ((lo : Nat) : Int)] w0 [] (fun v _ => v = .int .u64 ((isq (hi * BB + lo) : Nat) : Int)) := by
  have hlo' : lo < 18446744073709551616 := hlo
  refine x_enter' (n := 40) Tryd.func18 rfl rfl (Nat.le_of_ble_eq_true rfl) fun a w st => ?_
  refine x_seq ?_
  refine x_region ?_
  refine xseg 1 st rfl ?_
  clear st a; intro a st
  refine x_nil ?_
  refine x_seq ?_
  refine x_region ?_
  refine xseg 1 st rfl ?_
  clear st a; intro a st
  refine x_nil ?_
  refine x_seq ?_
  refine x_seq ?_
  refine x_region ?_
  refine xseg 1 st rfl ?_
  clear st a; intro a st
  refine x_nil ?_
  refine wp_block ?_
  refine x_loop (G := Nat) (fun k a w => ∃ out, St w0 [] 40 [(0, .int .u64 ((hi : Nat) : Int)), (1, .int .u64 ((lo : Nat) : Int)), (5, .int .u64 ((out : Nat) : Int)), (6, .int .i64 (((k : Nat) : Int) - 1))] ([] : Hp) a w ∧ (k ≤ 64) ∧ (Sq (hi * BB + lo) k out)) (fun k => k) 64 ⟨0, st.pickTo [0, 1, 5, 6] (by kernel_rfl), by omega, Sq.start _⟩ ?_
  clear st a w; intro k a w ⟨out, st, hk, hS⟩
  refine x_seq ?_
  refine x_seq ?_
  refine x_region ?_
  refine xseg 2 st rfl ?_
  clear st a; intro a st
  refine x_nil ?_
  refine x_condD st rfl (fun hc3 => ?_) (fun hc3 => ?_)
  · refine wp_skip ?_
    refine x_seq ?_
    refine wp_block ?_
    refine x_seq ?_
    obtain ⟨i, rfl⟩ : ∃ i, k = i + 1 := ⟨k - 1, by omega⟩
    obtain ⟨x, hx⟩ : ∃ x, x = out + 2 ^ i := ⟨_, rfl⟩
    have hxB : x < BB := by rw [hx]; exact hS.lt'
    have hob : out < 18446744073709551616 := by have := hS.lt'; exact Nat.lt_of_le_of_lt (Nat.le_add_right _ _) this
    have h2i : 2 ^ i < 18446744073709551616 := by have := hS.lt'; exact Nat.lt_of_le_of_lt (Nat.le_add_left _ _) this
    replace hx : Hid _ := hx
    replace h2i : Hid _ := h2i
    have hxB' : x < 18446744073709551616 := hxB
    refine x_region ?_
    refine xseg 1 st rfl ?_
    clear st a; intro a st
    refine xp st (.int .i64 ((i : Nat) : Int)) rfl (ieq (by omega)) rfl rfl (by decide) ?_
    clear st a; intro a st
    refine x_run (v := .int .u64 ((i : Nat) : Int)) st (r_conv (z := ((i : Nat) : Int)) st rfl rfl u3 u68 (cvu64 (by omega))) rfl rfl (by decide) ?_
    clear st a; intro a st
    refine x_run (v := .int .u64 ((2 ^ i : Nat) : Int)) st (r_num (v := .int .u64 ((2 ^ i : Nat) : Int)) st rfl rfl rfl (run_shlN (x := 1) (by omega) (by rw [Nat.one_mul]; exact Nat.mod_eq_of_lt h2i.out) _)) rfl rfl (by decide) ?_
    clear st a; intro a st
    refine x_run (v := .int .u64 ((x : Nat) : Int)) st (r_num (v := .int .u64 ((x : Nat) : Int)) st rfl rfl rfl (run_orN hob h2i.out (by rw [hx.out]; exact hS.or) _)) rfl rfl (by decide) ?_
    clear st a; intro a st
    refine xseg 1 st rfl ?_
    clear st a; intro a st
    refine x_nil ?_
    refine x_seq ?_
    refine x_region ?_
    refine xseg 2 st rfl ?_
    clear st a; intro a st
    refine x_call st rfl rfl ent32 rfl rfl (by decide) ((Mul64_ok x x hxB hxB _)) ?_
    intro a1 w1 v1 hk1 hv hn st1; subst hv
    clear hn hk1 st a w; revert st1; revert a1; revert w1; intro w a st
    refine xseg 5 st rfl ?_
    clear st a; intro a st
    refine x_nil ?_
    refine x_seq ?_
    refine x_region ?_
    refine xseg 4 st rfl ?_
    clear st a; intro a st
    rcases Bool.eq_false_or_eq_true (decide (((x * x / 18446744073709551616 : Nat) : Int) < ((hi : Nat) : Int))) with hg7_3 | hg7_3
    · rw [hg7_3] at st
      refine x_skip st (b := false) (c := true) rfl rfl rfl (by decide) rfl (by decide) ?_
      clear st a; intro a st
      refine x_skip st (b := false) (c := true) rfl rfl rfl (by decide) rfl (by decide) ?_
      clear st a; intro a st
      refine x_skip st (b := false) (c := true) rfl rfl rfl (by decide) rfl (by decide) ?_
      clear st a; intro a st
      refine x_skip st (b := false) (c := true) rfl rfl rfl (by decide) rfl (by decide) ?_
      clear st a; intro a st
      refine x_skipU st (b := true) rfl rfl rfl rfl (by decide) ?_
      clear st a; intro a st
      refine x_skipU st (b := true) rfl rfl rfl rfl (by decide) ?_
      clear st a; intro a st
      refine x_skipU st (b := true) rfl rfl rfl rfl (by decide) ?_
      clear st a; intro a st
      refine x_skip st (b := false) (c := true) rfl rfl rfl (by decide) rfl (by decide) ?_
      clear st a; intro a st
      refine xseg 1 st rfl ?_
      clear st a; intro a st
      refine x_nil ?_
      refine x_condT st rfl ?_
      refine x_region ?_
      refine xseg 2 st rfl ?_
      clear st a; intro a st
      refine x_nil ?_
      refine x_region ?_
      refine xseg 1 st rfl ?_
      clear st a; intro a st
      refine xp st (.int .i64 (((i : Nat) : Int) - 1)) rfl (wi64 (by omega) (by omega)) rfl rfl (by decide) ?_
      clear st a; intro a st
      refine xseg 1 st rfl ?_
      clear st a; intro a st
      refine x_nil ?_
      exact ⟨i, ⟨_, st.pickTo [0, 1, 5, 6] (by kernel_rfl), by omega, hS.yes hx.out (by (try unfold BB at hg7_3); (try unfold BB at hg7_7); (try unfold BB at h7); unfold BB; (try simp only [decide_eq_true_eq, decide_eq_false_iff_not, beq_iff_eq, beq_eq_false_iff_ne, ne_eq] at hg7_3); (try simp only [decide_eq_true_eq, decide_eq_false_iff_not, beq_iff_eq, beq_eq_false_iff_ne, ne_eq] at hg7_7); generalize x * x = p at *; omega)⟩, by omega⟩
    · rw [hg7_3] at st
      refine x_unguard st (b := false) rfl rfl rfl ?_
      refine xseg 1 st rfl ?_
      clear st a; intro a st
      refine x_unguard st (b := false) rfl rfl rfl ?_
      refine xseg 1 st rfl ?_
      clear st a; intro a st
      refine x_unguard st (b := false) rfl rfl rfl ?_
      refine xseg 1 st rfl ?_
      clear st a; intro a st
      refine x_unguard st (b := false) rfl rfl rfl ?_
      refine xseg 1 st rfl ?_
      clear st a; intro a st
      rcases Bool.eq_false_or_eq_true (((x * x / 18446744073709551616 : Nat) : Int) == ((hi : Nat) : Int)) with hg7_7 | hg7_7
      · rw [hg7_7] at st
        refine x_unguard st (b := true) rfl rfl rfl ?_
        refine xseg 1 st rfl ?_
        clear st a; intro a st
        refine x_unguard st (b := true) rfl rfl rfl ?_
        refine xseg 1 st rfl ?_
        clear st a; intro a st
        refine x_unguard st (b := true) rfl rfl rfl ?_
        refine xseg 1 st rfl ?_
        clear st a; intro a st
        refine x_unguard st (b := false) rfl rfl rfl ?_
        refine xseg 2 st rfl ?_
        clear st a; intro a st
        refine x_nil ?_
        refine x_condD st rfl (fun h7 => ?_) (fun h7 => ?_)
        · refine x_region ?_
          refine xseg 2 st rfl ?_
          clear st a; intro a st
          refine x_nil ?_
          refine x_region ?_
          refine xseg 1 st rfl ?_
          clear st a; intro a st
          refine xp st (.int .i64 (((i : Nat) : Int) - 1)) rfl (wi64 (by omega) (by omega)) rfl rfl (by decide) ?_
          clear st a; intro a st
          refine xseg 1 st rfl ?_
          clear st a; intro a st
          refine x_nil ?_
          exact ⟨i, ⟨_, st.pickTo [0, 1, 5, 6] (by kernel_rfl), by omega, hS.yes hx.out (by (try unfold BB at hg7_3); (try unfold BB at hg7_7); (try unfold BB at h7); unfold BB; (try simp only [decide_eq_true_eq, decide_eq_false_iff_not, beq_iff_eq, beq_eq_false_iff_ne, ne_eq] at hg7_3); (try simp only [decide_eq_true_eq, decide_eq_false_iff_not, beq_iff_eq, beq_eq_false_iff_ne, ne_eq] at hg7_7); generalize x * x = p at *; omega)⟩, by omega⟩
        · refine wp_skip ?_
          refine x_region ?_
          refine xseg 1 st rfl ?_
          clear st a; intro a st
          refine xp st (.int .i64 (((i : Nat) : Int) - 1)) rfl (wi64 (by omega) (by omega)) rfl rfl (by decide) ?_
          clear st a; intro a st
          refine xseg 1 st rfl ?_
          clear st a; intro a st
          refine x_nil ?_
          exact ⟨i, ⟨_, st.pickTo [0, 1, 5, 6] (by kernel_rfl), by omega, hS.no hx.out (by (try unfold BB at hg7_3); (try unfold BB at hg7_7); (try unfold BB at h7); unfold BB; (try simp only [decide_eq_true_eq, decide_eq_false_iff_not, beq_iff_eq, beq_eq_false_iff_ne, ne_eq] at hg7_3); (try simp only [decide_eq_true_eq, decide_eq_false_iff_not, beq_iff_eq, beq_eq_false_iff_ne, ne_eq] at hg7_7); generalize x * x = p at *; omega)⟩, by omega⟩
      · rw [hg7_7] at st
        refine x_skip st (b := true) (c := false) rfl rfl rfl (by decide) rfl (by decide) ?_
        clear st a; intro a st
        refine x_skip st (b := true) (c := false) rfl rfl rfl (by decide) rfl (by decide) ?_
        clear st a; intro a st
        refine x_skip st (b := true) (c := false) rfl rfl rfl (by decide) rfl (by decide) ?_
        clear st a; intro a st
        refine x_unguard st (b := false) rfl rfl rfl ?_
        refine xseg 2 st rfl ?_
        clear st a; intro a st
        refine x_nil ?_
        refine x_condF st rfl ?_
        refine wp_skip ?_
        refine x_region ?_
        refine xseg 1 st rfl ?_
        clear st a; intro a st
        refine xp st (.int .i64 (((i : Nat) : Int) - 1)) rfl (wi64 (by omega) (by omega)) rfl rfl (by decide) ?_
        clear st a; intro a st
        refine xseg 1 st rfl ?_
        clear st a; intro a st
        refine x_nil ?_
        exact ⟨i, ⟨_, st.pickTo [0, 1, 5, 6] (by kernel_rfl), by omega, hS.no hx.out (by (try unfold BB at hg7_3); (try unfold BB at hg7_7); (try unfold BB at h7); unfold BB; (try simp only [decide_eq_true_eq, decide_eq_false_iff_not, beq_iff_eq, beq_eq_false_iff_ne, ne_eq] at hg7_3); (try simp only [decide_eq_true_eq, decide_eq_false_iff_not, beq_iff_eq, beq_eq_false_iff_ne, ne_eq] at hg7_7); generalize x * x = p at *; omega)⟩, by omega⟩
  · refine wp_exit ?_
    refine x_thenExit ?_
    refine x_thenExit ?_
    refine x_inBlock ?_
    refine x_seq ?_
    obtain rfl : k = 0 := by omega
    have hf := hS.fin
    refine x_region ?_
    refine xseg 2 st rfl ?_
    clear st a; intro a st
    refine x_nil ?_
    refine x_wpret ?_
    exact x_retp st [.int .u64 ((out : Nat) : Int)] rfl ⟨rfl, trivial⟩ rfl (ieq (by rw [← hf.1]))

set_option maxRecDepth 20000 in
set_option maxHeartbeats 1000000 in
theorem Sqrt_ok  (x : Nat) (hx : x < BB) (hr : isq x < 4294967296) (w0 : World) :
    Fn Tryd.prog 48 [.int .u64 ((x : Nat) : Int)] w0 [] (fun v _ => v = .int .u32 ((isq x : Nat) : Int)) := by
  refine x_enter' (n := 6) Tryd.func48 rfl rfl (Nat.le_of_ble_eq_true rfl) fun a w st => ?_
  refine x_seq ?_
  refine x_region ?_
  refine xseg 1 st rfl ?_
  clear st a; intro a st
  refine x_nil ?_
  refine x_seq ?_
  refine x_region ?_
  refine xseg 1 st rfl ?_
  clear st a; intro a st
  refine x_call st rfl rfl ent18 rfl rfl (by decide) ((by have h := Root_ok 0 x (by decide) hx w; rw [Nat.zero_mul, Nat.zero_add] at h; exact h)) ?_
  intro a1 w1 v1 hk1 hv hn st1; subst hv
  clear hn hk1 st a w; revert st1; revert a1; revert w1; intro w a st
  refine x_run (v := .int .u32 ((isq x : Nat) : Int)) st (r_conv (z := ((isq x : Nat) : Int)) st rfl rfl u45 u90 (cvu32 (by omega))) rfl rfl (by decide) ?_
  clear st a; intro a st
  refine xseg 1 st rfl ?_
  clear st a; intro a st
  refine x_nil ?_
  refine x_wpret ?_
  exact x_retp st [.int .u32 ((isq x : Nat) : Int)] rfl ⟨rfl, trivial⟩ rfl (rfl)

set_option maxRecDepth 20000 in
set_option maxHeartbeats 1000000 in
theorem size_ok  (x : Int) (hx : -9223372036854775808 ≤ x ∧ x < 9223372036854775808) (w0 : World) :
    Fn Tryd.prog 50 [.int .i64 x] w0 [] (fun v _ => v = .int .u64 ((x.natAbs : Nat) : Int)) := by
  refine x_enter' (n := 10) Tryd.func50 rfl rfl (Nat.le_of_ble_eq_true rfl) fun a w st => ?_
  refine x_seq ?_
  refine x_region ?_
  refine xseg 1 st rfl ?_
  clear st a; intro a st
  refine x_nil ?_
  refine x_seq ?_
  refine x_seq ?_
  refine x_region ?_
  refine xseg 2 st rfl ?_
  clear st a; intro a st
  refine x_nil ?_
  refine x_condD st rfl (fun h1 => ?_) (fun h1 => ?_)
  · refine x_seq ?_
    refine x_region ?_
    refine xseg 1 st rfl ?_
    clear st a; intro a st
    refine x_run (v := .int .u64 (x % 18446744073709551616)) st (r_conv (z := x % 18446744073709551616) st rfl rfl u2 u45 (by rw [IntKind.wrap_u64])) rfl rfl (by decide) ?_
    clear st a; intro a st
    refine x_run (v := .int .u64 ((x.natAbs : Nat) : Int)) st (r_neg (z := ((x.natAbs : Nat) : Int)) st rfl rfl (by rw [IntKind.wrap_u64]; omega)) rfl rfl (by decide) ?_
    clear st a; intro a st
    refine xseg 1 st rfl ?_
    clear st a; intro a st
    refine x_nil ?_
    refine x_wpret ?_
    refine x_thenRet ?_
    exact x_retp st [.int .u64 ((x.natAbs : Nat) : Int)] rfl ⟨rfl, trivial⟩ rfl (rfl)
  · refine wp_skip ?_
    refine x_seq ?_
    refine x_region ?_
    refine xseg 1 st rfl ?_
    clear st a; intro a st
    refine x_run (v := .int .u64 ((x.natAbs : Nat) : Int)) st (r_conv (z := ((x.natAbs : Nat) : Int)) st rfl rfl u2 u45 (by rw [IntKind.wrap_u64]; omega)) rfl rfl (by decide) ?_
    clear st a; intro a st
    refine xseg 1 st rfl ?_
    clear st a; intro a st
    refine x_nil ?_
    refine x_wpret ?_
    exact x_retp st [.int .u64 ((x.natAbs : Nat) : Int)] rfl ⟨rfl, trivial⟩ rfl (rfl)

set_option maxRecDepth 20000 in
set_option maxHeartbeats 1000000 in
theorem fsigned_p  (x : Nat) (hx : x < 9223372036854775808) (w0 : World) :
    Fn Tryd.prog 49 [.int .u64 ((x : Nat) : Int), .bool false] w0 [] (fun v _ => v = .tuple #[.int .i64 ((x : Nat) : Int), .bool true]) := by
  refine x_enter' (n := 24) Tryd.func49 rfl rfl (Nat.le_of_ble_eq_true rfl) fun a w st => ?_
  refine x_seq ?_
  refine x_region ?_
  refine xseg 2 st rfl ?_
  clear st a; intro a st
  refine x_nil ?_
  refine x_seq ?_
  refine wp_block ?_
  refine x_seq ?_
  refine x_region ?_
  refine xseg 2 st rfl ?_
  clear st a; intro a st
  refine x_skip st (b := true) (c := false) rfl rfl rfl (by decide) rfl (by decide) ?_
  clear st a; intro a st
  refine x_skip st (b := true) (c := false) rfl rfl rfl (by decide) rfl (by decide) ?_
  clear st a; intro a st
  refine xseg 2 st rfl ?_
  clear st a; intro a st
  refine x_nil ?_
  refine x_condF st rfl ?_
  refine x_seq ?_
  refine x_region ?_
  refine xseg 3 st rfl ?_
  clear st a; intro a st
  refine x_unguard st (b := true) rfl rfl rfl ?_
  refine xseg 1 st rfl ?_
  clear st a; intro a st
  refine x_unguard st (b := true) rfl rfl rfl ?_
  refine xp st (.bool true) rfl (beq (decide_eq_true (by omega))) rfl rfl (by decide) ?_
  clear st a; intro a st
  refine xseg 2 st rfl ?_
  clear st a; intro a st
  refine x_nil ?_
  refine x_condT st rfl ?_
  refine x_seq ?_
  refine x_region ?_
  refine xseg 1 st rfl ?_
  clear st a; intro a st
  refine x_run (v := .int .i64 ((x : Nat) : Int)) st (r_conv (z := ((x : Nat) : Int)) st rfl rfl u45 u2 (cvi64 (by omega))) rfl rfl (by decide) ?_
  clear st a; intro a st
  refine xseg 2 st rfl ?_
  clear st a; intro a st
  refine x_nil ?_
  refine x_wpret ?_
  refine x_blockRet ?_
  refine x_thenRet ?_
  exact x_retp st [.int .i64 ((x : Nat) : Int), .bool true] rfl ⟨rfl, rfl, trivial⟩ rfl (rfl)

set_option maxRecDepth 20000 in
set_option maxHeartbeats 1000000 in
theorem Amount_ok  (x : Int) (hx : -9223372036854775807 ≤ x ∧ x < 9223372036854775808) (w0 : World) :
    Fn Tryd.prog 37 [.int .i64 x] w0 [] (fun v _ => v = .tuple #[.int .i64 ((x.natAbs : Nat) : Int), .bool true]) := by
  refine x_enter' (n := 9) Tryd.func37 rfl rfl (Nat.le_of_ble_eq_true rfl) fun a w st => ?_
  refine x_seq ?_
  refine x_region ?_
  refine xseg 2 st rfl ?_
  clear st a; intro a st
  refine x_nil ?_
  refine x_seq ?_
  refine x_region ?_
  refine xseg 1 st rfl ?_
  clear st a; intro a st
  refine x_call st rfl rfl ent50 rfl rfl (by decide) ((size_ok x (by omega) _)) ?_
  intro a1 w1 v1 hk1 hv hn st1; subst hv
  clear hn hk1 st a w; revert st1; revert a1; revert w1; intro w a st
  refine x_call st rfl rfl ent49 rfl rfl (by decide) ((fsigned_p x.natAbs (by omega) _)) ?_
  intro a1 w1 v1 hk1 hv hn st1; subst hv
  clear hn hk1 st a w; revert st1; revert a1; revert w1; intro w a st
  refine xseg 4 st rfl ?_
  clear st a; intro a st
  refine x_nil ?_
  refine x_wpret ?_
  exact x_retp st [.int .i64 ((x.natAbs : Nat) : Int), .bool true] rfl ⟨rfl, rfl, trivial⟩ rfl (rfl)

theorem sq_bd {x : Int} (h : -2147483648 ≤ x ∧ x ≤ 2147483648) : 0 ≤ x * x ∧ x * x ≤ 4611686018427387904 := by
  have h1 : x * x = ((x.natAbs * x.natAbs : Nat) : Int) := by rw [Int.natCast_mul, Int.natAbs_mul_self']
  have h2 := Nat.mul_le_mul (show x.natAbs ≤ 2147483648 by omega) (show x.natAbs ≤ 2147483648 by omega)
  omega

set_option maxRecDepth 20000 in
set_option maxHeartbeats 1000000 in
theorem Hypot_ok  (x y : Int) (hx : -2147483648 ≤ x ∧ x ≤ 2147483648) (hy : -2147483648 ≤ y ∧ y ≤ 2147483648) (w0 : World) :
    Fn Tryd.prog 36 [.int .i64 x, .int .i64 y] w0 [] (fun v _ => v = .tuple #[.int .i64 ((isq (hyp2 x y) : Nat) : Int), .bool true]) := by
  have hxx := sq_bd hx
  have hyy := sq_bd hy
  have hh : ((hyp2 x y : Nat) : Int) = x * x + y * y := by unfold hyp2; omega
  have hi := isq_32 (x := hyp2 x y) (by omega)
  refine x_enter' (n := 31) Tryd.func36 rfl rfl (Nat.le_of_ble_eq_true rfl) fun a w st => ?_
  refine x_seq ?_
  refine x_region ?_
  refine xseg 2 st rfl ?_
  clear st a; intro a st
  refine x_nil ?_
  refine x_seq ?_
  refine x_seq ?_
  refine x_region ?_
  refine xseg 1 st rfl ?_
  clear st a; intro a st
  refine xp st (.bool false) rfl (beq (decide_eq_false (by omega))) rfl rfl (by decide) ?_
  clear st a; intro a st
  refine xseg 1 st rfl ?_
  clear st a; intro a st
  refine x_unguard st (b := false) rfl rfl rfl ?_
  refine xseg 1 st rfl ?_
  clear st a; intro a st
  refine x_unguard st (b := false) rfl rfl rfl ?_
  refine xp st (.bool false) rfl (beq (decide_eq_false (by omega))) rfl rfl (by decide) ?_
  clear st a; intro a st
  refine xseg 2 st rfl ?_
  clear st a; intro a st
  refine x_unguard st (b := false) rfl rfl rfl ?_
  refine xseg 1 st rfl ?_
  clear st a; intro a st
  refine x_unguard st (b := false) rfl rfl rfl ?_
  refine xp st (.bool false) rfl (beq (decide_eq_false (by omega))) rfl rfl (by decide) ?_
  clear st a; intro a st
  refine xseg 2 st rfl ?_
  clear st a; intro a st
  refine x_unguard st (b := false) rfl rfl rfl ?_
  refine xseg 1 st rfl ?_
  clear st a; intro a st
  refine x_unguard st (b := false) rfl rfl rfl ?_
  refine xp st (.bool false) rfl (beq (decide_eq_false (by omega))) rfl rfl (by decide) ?_
  clear st a; intro a st
  refine xseg 1 st rfl ?_
  clear st a; intro a st
  refine x_nil ?_
  refine x_condF st rfl ?_
  refine wp_skip ?_
  refine x_seq ?_
  refine x_region ?_
  refine xseg 2 st rfl ?_
  clear st a; intro a st
  refine xp st (.int .i64 (x * x)) rfl (wi64 (by omega) rfl) rfl rfl (by decide) ?_
  clear st a; intro a st
  refine x_run (v := .int .u64 (x * x)) st (r_conv (z := x * x) st rfl rfl u2 u45 (cvu64 (by omega))) rfl rfl (by decide) ?_
  clear st a; intro a st
  refine xseg 2 st rfl ?_
  clear st a; intro a st
  refine xp st (.int .i64 (y * y)) rfl (wi64 (by omega) rfl) rfl rfl (by decide) ?_
  clear st a; intro a st
  refine x_run (v := .int .u64 (y * y)) st (r_conv (z := y * y) st rfl rfl u2 u45 (cvu64 (by omega))) rfl rfl (by decide) ?_
  clear st a; intro a st
  refine xp st (.int .u64 ((hyp2 x y : Nat) : Int)) rfl (wu64 (by omega) (by omega)) rfl rfl (by decide) ?_
  clear st a; intro a st
  refine x_call st rfl rfl ent48 rfl rfl (by decide) ((Sqrt_ok (hyp2 x y) (show _ < 18446744073709551616 by omega) hi _)) ?_
  intro a1 w1 v1 hk1 hv hn st1; subst hv
  clear hn hk1 st a w; revert st1; revert a1; revert w1; intro w a st
  refine x_run (v := .int .i64 ((isq (hyp2 x y) : Nat) : Int)) st (r_conv (z := ((isq (hyp2 x y) : Nat) : Int)) st rfl rfl u90 u2 (cvi64 (by omega))) rfl rfl (by decide) ?_
  clear st a; intro a st
  refine xseg 2 st rfl ?_
  clear st a; intro a st
  refine x_nil ?_
  refine x_wpret ?_
  exact x_retp st [.int .i64 ((isq (hyp2 x y) : Nat) : Int), .bool true] rfl ⟨rfl, rfl, trivial⟩ rfl (rfl)

set_option maxRecDepth 20000 in
set_option maxHeartbeats 1000000 in
theorem Far_ok  (x y : Int) (w0 : World) :
    Fn Tryd.prog 12 [.agg (#[.int .i64 x, .int .i64 y])] w0 [] (fun v _ => v = .bool (farB x y)) := by
  refine x_enter' (n := 21) Tryd.func12 rfl rfl (Nat.le_of_ble_eq_true rfl) fun a w st => ?_
  refine x_seq ?_
  refine x_region ?_
  refine x_box st rfl rfl rfl rfl (by decide) ?_
  clear st a; intro a w b1 st
  refine xseg 1 st rfl ?_
  clear st a; intro a st
  refine x_nil ?_
  refine x_seq ?_
  refine x_region ?_
  refine x_run (v := .pointer (some ⟨b1, 0, none⟩)) st (r_field st rfl rfl o25_0) rfl rfl (by decide) ?_
  clear st a; intro a st
  refine x_run (v := .int .i64 x) st (r_load st rfl rfl (run_load1 (st.at 0 rfl) u2 rfl rfl)) rfl rfl (by decide) ?_
  clear st a; intro a st
  refine xseg 2 st rfl ?_
  clear st a; intro a st
  rcases Bool.eq_false_or_eq_true (decide (x < -4194304)) with hg1_3 | hg1_3
  · rw [hg1_3] at st
    refine x_skip st (b := false) (c := true) rfl rfl rfl (by decide) rfl (by decide) ?_
    clear st a; intro a st
    refine x_skip st (b := false) (c := true) rfl rfl rfl (by decide) rfl (by decide) ?_
    clear st a; intro a st
    refine x_skip st (b := false) (c := true) rfl rfl rfl (by decide) rfl (by decide) ?_
    clear st a; intro a st
    refine xseg 2 st rfl ?_
    clear st a; intro a st
    refine x_skip st (b := false) (c := true) rfl rfl rfl (by decide) rfl (by decide) ?_
    clear st a; intro a st
    refine x_skip st (b := false) (c := true) rfl rfl rfl (by decide) rfl (by decide) ?_
    clear st a; intro a st
    refine x_skip st (b := false) (c := true) rfl rfl rfl (by decide) rfl (by decide) ?_
    clear st a; intro a st
    refine xseg 2 st rfl ?_
    clear st a; intro a st
    refine x_skip st (b := false) (c := true) rfl rfl rfl (by decide) rfl (by decide) ?_
    clear st a; intro a st
    refine x_skip st (b := false) (c := true) rfl rfl rfl (by decide) rfl (by decide) ?_
    clear st a; intro a st
    refine x_skip st (b := false) (c := true) rfl rfl rfl (by decide) rfl (by decide) ?_
    clear st a; intro a st
    refine xseg 2 st rfl ?_
    clear st a; intro a st
    refine x_nil ?_
    refine x_wpret ?_
    exact x_retp st [.bool true] rfl ⟨rfl, trivial⟩ rfl (beq (by unfold farB; (try rw [hg1_3]); (try rw [hg1_8]); (try rw [hg1_13]); rfl))
  · rw [hg1_3] at st
    refine x_unguard st (b := false) rfl rfl rfl ?_
    refine x_run (v := .pointer (some ⟨b1, 0, none⟩)) st (r_field st rfl rfl o25_0) rfl rfl (by decide) ?_
    clear st a; intro a st
    refine x_unguard st (b := false) rfl rfl rfl ?_
    refine x_run (v := .int .i64 x) st (r_load st rfl rfl (run_load1 (st.at 0 rfl) u2 rfl rfl)) rfl rfl (by decide) ?_
    clear st a; intro a st
    refine x_unguard st (b := false) rfl rfl rfl ?_
    refine xseg 3 st rfl ?_
    clear st a; intro a st
    rcases Bool.eq_false_or_eq_true (decide (x > 4194304)) with hg1_8 | hg1_8
    · rw [hg1_8] at st
      refine x_skip st (b := false) (c := true) rfl rfl rfl (by decide) rfl (by decide) ?_
      clear st a; intro a st
      refine x_skip st (b := false) (c := true) rfl rfl rfl (by decide) rfl (by decide) ?_
      clear st a; intro a st
      refine x_skip st (b := false) (c := true) rfl rfl rfl (by decide) rfl (by decide) ?_
      clear st a; intro a st
      refine xseg 2 st rfl ?_
      clear st a; intro a st
      refine x_skip st (b := false) (c := true) rfl rfl rfl (by decide) rfl (by decide) ?_
      clear st a; intro a st
      refine x_skip st (b := false) (c := true) rfl rfl rfl (by decide) rfl (by decide) ?_
      clear st a; intro a st
      refine x_skip st (b := false) (c := true) rfl rfl rfl (by decide) rfl (by decide) ?_
      clear st a; intro a st
      refine xseg 2 st rfl ?_
      clear st a; intro a st
      refine x_nil ?_
      refine x_wpret ?_
      exact x_retp st [.bool true] rfl ⟨rfl, trivial⟩ rfl (beq (by unfold farB; (try rw [hg1_3]); (try rw [hg1_8]); (try rw [hg1_13]); rfl))
    · rw [hg1_8] at st
      refine x_unguard st (b := false) rfl rfl rfl ?_
      refine x_run (v := .pointer (some ⟨b1, 1, none⟩)) st (r_field st rfl rfl o25_1) rfl rfl (by decide) ?_
      clear st a; intro a st
      refine x_unguard st (b := false) rfl rfl rfl ?_
      refine x_run (v := .int .i64 y) st (r_load st rfl rfl (run_load1 (st.at 0 rfl) u2 rfl rfl)) rfl rfl (by decide) ?_
      clear st a; intro a st
      refine x_unguard st (b := false) rfl rfl rfl ?_
      refine xseg 3 st rfl ?_
      clear st a; intro a st
      rcases Bool.eq_false_or_eq_true (decide (y < -4194304)) with hg1_13 | hg1_13
      · rw [hg1_13] at st
        refine x_skip st (b := false) (c := true) rfl rfl rfl (by decide) rfl (by decide) ?_
        clear st a; intro a st
        refine x_skip st (b := false) (c := true) rfl rfl rfl (by decide) rfl (by decide) ?_
        clear st a; intro a st
        refine x_skip st (b := false) (c := true) rfl rfl rfl (by decide) rfl (by decide) ?_
        clear st a; intro a st
        refine xseg 2 st rfl ?_
        clear st a; intro a st
        refine x_nil ?_
        refine x_wpret ?_
        exact x_retp st [.bool true] rfl ⟨rfl, trivial⟩ rfl (beq (by unfold farB; (try rw [hg1_3]); (try rw [hg1_8]); (try rw [hg1_13]); rfl))
      · rw [hg1_13] at st
        refine x_unguard st (b := false) rfl rfl rfl ?_
        refine x_run (v := .pointer (some ⟨b1, 1, none⟩)) st (r_field st rfl rfl o25_1) rfl rfl (by decide) ?_
        clear st a; intro a st
        refine x_unguard st (b := false) rfl rfl rfl ?_
        refine x_run (v := .int .i64 y) st (r_load st rfl rfl (run_load1 (st.at 0 rfl) u2 rfl rfl)) rfl rfl (by decide) ?_
        clear st a; intro a st
        refine x_unguard st (b := false) rfl rfl rfl ?_
        refine xseg 3 st rfl ?_
        clear st a; intro a st
        refine x_nil ?_
        refine x_wpret ?_
        exact x_retp st [.bool (decide (y > 4194304))] rfl ⟨rfl, trivial⟩ rfl (beq (by unfold farB; (try rw [hg1_3]); (try rw [hg1_8]); (try rw [hg1_13]); rfl))

end Go.Proofs.YtnkbhmonceiocaaDoor
