/-
  The package wide of the program: below, Of, plus, inverse, Neg: what they return, for every number.
-/
import Derived.Test.YtnkbhmonceiocaaDoorRun
import Derived.Test.YtnkbhmonceiocaaDoorProg
import Derived.Shelf.Spec.BitsCarry
import Derived.Test.YtnkbhmonceiocaaDoorWideP
namespace Go.Proofs.YtnkbhmonceiocaaDoor
open Go Go.RowKit
namespace FWideA
theorem add64 (x y c : Nat) (hx : x < BB) (hy : y < BB) (hc : c ≤ 1) (w : World) : (callFunc 40 #[.int .u64 x, .int .u64 y, .int .u64 c]).run Tryd.prog w =
    .ok (.value (.tuple #[.int .u64 (((x + y + c) % BB : Nat) : Int), .int .u64 (((x + y + c) / BB : Nat) : Int)])) w := by
  rw [run_callFunc_extern Tryd.func40 (by kernel_rfl) (by kernel_rfl) (by kernel_rfl) (e := add64Entry) (by kernel_rfl), run_add64 x y c (by omega) (by omega) (by omega) (by omega)]
  simp only [Result.andThen]
  congr 5 <;> omega
theorem bz47 (w : World) : (Instr.build 47 #[]).run Tryd.prog w = .ok (.agg (Wd 0)) w := by kernel_rfl
theorem ent27 (args : Array Value) (w : World) : (callFunc 27 args).run Tryd.prog w = .ok (.enter 27 args) w := enters_at Tryd.func27 (by kernel_rfl) rfl args w
theorem ent28 (args : Array Value) (w : World) : (callFunc 28 args).run Tryd.prog w = .ok (.enter 28 args) w := enters_at Tryd.func28 (by kernel_rfl) rfl args w
theorem ent29 (args : Array Value) (w : World) : (callFunc 29 args).run Tryd.prog w = .ok (.enter 29 args) w := enters_at Tryd.func29 (by kernel_rfl) rfl args w
theorem ent31 (args : Array Value) (w : World) : (callFunc 31 args).run Tryd.prog w = .ok (.enter 31 args) w := enters_at Tryd.func31 (by kernel_rfl) rfl args w
theorem ent56 (args : Array Value) (w : World) : (callFunc 56 args).run Tryd.prog w = .ok (.enter 56 args) w := enters_at Tryd.func56 (by kernel_rfl) rfl args w
theorem mixed : Tryd.prog.follows .mixedOrders = true := by kernel_rfl
theorem q47 : Tryd.prog.eqGuardType Tryd.prog.depth 47 = false := by kernel_rfl
theorem s45 : (Tryd.prog.info? 45).map (·.size) = some 1 := by kernel_rfl
theorem s47 : (Tryd.prog.info? 47).map (·.size) = some 16 := by kernel_rfl
theorem u2 : Tryd.prog.underlying 2 = some (.int .i64) := by kernel_rfl
theorem u45 : Tryd.prog.underlying 45 = some (.int .u64) := by kernel_rfl
theorem u47 : Tryd.prog.underlying 47 = some (.array 16 45) := by kernel_rfl
theorem z47 : (Tryd.prog.info? 47).bind (·.zero) = some (.agg (#[.int .u64 0, .int .u64 0, .int .u64 0, .int .u64 0, .int .u64 0, .int .u64 0, .int .u64 0, .int .u64 0, .int .u64 0, .int .u64 0, .int .u64 0, .int .u64 0, .int .u64 0, .int .u64 0, .int .u64 0, .int .u64 0])) := by kernel_rfl
end FWideA
open FWideA
set_option maxRecDepth 20000 in
set_option maxHeartbeats 1000000 in
theorem below_ok  (x : Int) (hx : inR x) (w0 : World) :
    Fn Tryd.prog 29 [.agg (Wd x)] w0 [] (fun v _ => v = .bool (decide (x < 0))) := by
  refine x_enter' (n := 7) Tryd.func29 rfl rfl (Nat.le_of_ble_eq_true rfl) fun a w st => ?_
  refine x_seq ?_
  refine x_region ?_
  refine x_box st rfl rfl rfl rfl (by decide) ?_
  clear st a; intro a w b1 st
  refine xseg 1 st rfl ?_
  clear st a; intro a st
  refine x_nil ?_
  refine x_seq ?_
  refine x_region ?_
  refine x_run (v := .pointer (some ⟨b1, 15, none⟩)) st (r_index st rfl rfl rfl (run_indexA' (k := 15) (off := 15) u47 s45 (by decide) (by first | rfl | omega) _)) rfl rfl (by decide) ?_
  clear st a; intro a st
  refine x_run (v := .int .u64 (((limb x) 15 : Nat) : Int)) st (r_load st rfl rfl (run_load1 (st.at 0 rfl) u45 rfl (AF_get (by decide)))) rfl rfl (by decide) ?_
  clear st a; intro a st
  refine x_run (v := .int .u64 ((((limb x) 15 : Nat) : Int) / 2 ^ 63)) st (r_num (v := .int .u64 ((((limb x) 15 : Nat) : Int) / 2 ^ 63)) st rfl rfl rfl (run_shr (m := 63) (by decide) (by first | rfl | omega) _)) rfl rfl (by decide) ?_
  clear st a; intro a st
  refine xp st (.bool (decide (x < 0))) rfl (beq (limb15 hx)) rfl rfl (by decide) ?_
  clear st a; intro a st
  refine xseg 1 st rfl ?_
  clear st a; intro a st
  refine x_nil ?_
  refine x_wpret ?_
  exact x_retp st [.bool (decide (x < 0))] rfl ⟨rfl, trivial⟩ rfl (rfl)

set_option maxRecDepth 20000 in
set_option maxHeartbeats 1000000 in
theorem plus_ok  (x y : Int) (c : Nat) (hc : c ≤ 1) (w0 : World) :
    Fn Tryd.prog 27 [.agg (Wd x), .agg (Wd y), .int .u64 ((c : Nat) : Int)] w0 [] (fun v _ => v = .tuple #[.agg (Wd (x + y + c)), .int .u64 (cr x y c 16 : Nat)]) := by
  refine x_enter' (n := 29) Tryd.func27 rfl rfl (Nat.le_of_ble_eq_true rfl) fun a w st => ?_
  refine x_seq ?_
  refine x_region ?_
  refine x_box st rfl rfl rfl rfl (by decide) ?_
  clear st a; intro a w b1 st
  refine x_box st rfl rfl rfl rfl (by decide) ?_
  clear st a; intro a w b2 st
  refine x_alloc st rfl z47 rfl rfl (by decide) ?_
  clear st a; intro a w b3 st
  replace st := st.cast rfl (show _ = ([(b3, .cells (Wd 0) 47 (0, 0)), (b2, .cells (Wd y) 47 (0, 0)), (b1, .cells (Wd x) 47 (0, 0))] : Hp) from rfl)
  refine xseg 1 st rfl ?_
  clear st a; intro a st
  refine x_nil ?_
  refine x_seq ?_
  refine x_region ?_
  refine x_alloc st rfl z47 rfl rfl (by decide) ?_
  clear st a; intro a w b4 st
  replace st := st.cast rfl (show _ = ([(b4, .cells (Wd 0) 47 (0, 0)), (b3, .cells (Wd 0) 47 (0, 0)), (b2, .cells (Wd y) 47 (0, 0)), (b1, .cells (Wd x) 47 (0, 0))] : Hp) from rfl)
  refine x_nil ?_
  refine x_seq ?_
  refine x_seq ?_
  refine x_region ?_
  refine xseg 1 st rfl ?_
  clear st a; intro a st
  refine x_nil ?_
  refine wp_block ?_
  have hc0 : c = cr x y c 0 := cr_zero x y c
  refine x_loop (G := Nat) (fun k a w => ∃ g, St w0 [] 29 [(3, .pointer (some ⟨b1, 0, none⟩)), (4, .pointer (some ⟨b2, 0, none⟩)), (6, .pointer (some ⟨b3, 0, none⟩)), (8, .pointer (some ⟨b4, 0, none⟩)), (2, .int .u64 ((cr x y c k : Nat) : Int)), (10, .int .i64 ((k : Nat) : Int))] ([(b4, .cells (AF 16 g) 47 (0, 0)), (b3, .cells (Wd 0) 47 (0, 0)), (b2, .cells (Wd y) 47 (0, 0)), (b1, .cells (Wd x) 47 (0, 0))] : Hp) a w ∧ (k ≤ 16) ∧ (∀ i, i < k → g i = limb (x + y + c) i)) (fun k => 16 - k) 0 ⟨_, (St.cast (st.pickTo [3, 4, 6, 8, 2, 10] (by kernel_rfl)) (by rw [← hc0]) rfl), by omega, fun i hi => by omega⟩ ?_
  clear st a w; intro k a w ⟨g, st, hk, hg⟩
  refine x_seq ?_
  refine x_region ?_
  refine xseg 1 st rfl ?_
  clear st a; intro a st
  refine x_nil ?_
  refine x_seq ?_
  refine x_condD st rfl (fun hc3 => ?_) (fun hc3 => ?_)
  · refine wp_skip ?_
    refine x_seq ?_
    refine wp_block ?_
    refine x_seq ?_
    have hcr := cr_le x y c hc k
    refine x_region ?_
    refine xseg 2 st rfl ?_
    clear st a; intro a st
    refine x_nil ?_
    refine x_draw st [] [.det (.int .i64 ((k : Nat) : Int)), .det (.int .i64 ((k : Nat) : Int)), .det (.pointer (some ⟨b1, k, none⟩)), .det (.int .u64 (((limb x) k : Nat) : Int)), .det (.int .i64 ((k : Nat) : Int)), .det (.pointer (some ⟨b2, k, none⟩)), .det (.int .u64 (((limb y) k : Nat) : Int)), .det (.int .u64 ((cr x y c k : Nat) : Int)), .det (.tuple #[.int .u64 ((((limb x) k + (limb y) k + cr x y c k) % BB : Nat) : Int), .int .u64 ((((limb x) k + (limb y) k + cr x y c k) / BB : Nat) : Int)]), .det (.tuple #[.int .u64 ((((limb x) k + (limb y) k + cr x y c k) % BB : Nat) : Int), .int .u64 ((((limb x) k + (limb y) k + cr x y c k) / BB : Nat) : Int)]), .det (.int .u64 ((limb (x + y + c) k : Nat) : Int)), .det (.int .u64 ((cr x y c (k + 1) : Nat) : Int)), .det (.pointer (some ⟨b4, k, none⟩)), .det undef, .det undef] mixed (by kernel_rfl)
      ⟨ob_p (Fi := [(9, .int .i64 ((k : Nat) : Int))]) (by kernel_rfl) rfl rfl ⟨by kernel_rfl, trivial⟩ rfl rfl,
        ob_p (Fi := [(9, .int .i64 ((k : Nat) : Int))]) (by kernel_rfl) rfl rfl ⟨by kernel_rfl, trivial⟩ rfl rfl,
        ob_run (Fi := [(3, .pointer (some ⟨b1, 0, none⟩)), (15, .int .i64 ((k : Nat) : Int))]) (by kernel_rfl) rfl rfl ⟨by kernel_rfl, by kernel_rfl, trivial⟩ (fun a w st hk hxx w' => r_index st rfl rfl rfl (run_indexA' (k := k) (off := k) u47 s45 (by omega) (by first | rfl | omega) _)),
        ob_w (Fi := [(16, .pointer (some ⟨b1, k, none⟩))]) (by kernel_rfl) rfl rfl ⟨by kernel_rfl, trivial⟩ (fun a w st hk hxx => r_load st rfl rfl (run_load1 (st.at 3 rfl) u45 rfl (AF_get (by omega)))),
        ob_p (Fi := [(9, .int .i64 ((k : Nat) : Int))]) (by kernel_rfl) rfl rfl ⟨by kernel_rfl, trivial⟩ rfl rfl,
        ob_run (Fi := [(4, .pointer (some ⟨b2, 0, none⟩)), (18, .int .i64 ((k : Nat) : Int))]) (by kernel_rfl) rfl rfl ⟨by kernel_rfl, by kernel_rfl, trivial⟩ (fun a w st hk hxx w' => r_index st rfl rfl rfl (run_indexA' (k := k) (off := k) u47 s45 (by omega) (by first | rfl | omega) _)),
        ob_w (Fi := [(19, .pointer (some ⟨b2, k, none⟩))]) (by kernel_rfl) rfl rfl ⟨by kernel_rfl, trivial⟩ (fun a w st hk hxx => r_load st rfl rfl (run_load1 (st.at 2 rfl) u45 rfl (AF_get (by omega)))),
        ob_p (Fi := [(2, .int .u64 ((cr x y c k : Nat) : Int))]) (by kernel_rfl) rfl rfl ⟨by kernel_rfl, trivial⟩ rfl rfl,
        ob_w (Fi := [(17, .int .u64 (((limb x) k : Nat) : Int)), (20, .int .u64 (((limb y) k : Nat) : Int)), (21, .int .u64 ((cr x y c k : Nat) : Int))]) (by kernel_rfl) rfl rfl ⟨by kernel_rfl, by kernel_rfl, by kernel_rfl, trivial⟩ (fun a w st hk hxx => r_extern st rfl rfl (add64 ((limb x) k) ((limb y) k) (cr x y c k) (by first | exact limb_lt _ _ | assumption | exact Nat.mod_lt _ (by decide) | omega) (by first | exact limb_lt _ _ | assumption | exact Nat.mod_lt _ (by decide) | omega) (by omega) _)),
        ob_p (Fi := [(22, .tuple #[.int .u64 ((((limb x) k + (limb y) k + cr x y c k) % BB : Nat) : Int), .int .u64 ((((limb x) k + (limb y) k + cr x y c k) / BB : Nat) : Int)])]) (by kernel_rfl) rfl rfl ⟨by kernel_rfl, trivial⟩ rfl rfl,
        ob_p (Fi := [(13, .tuple #[.int .u64 ((((limb x) k + (limb y) k + cr x y c k) % BB : Nat) : Int), .int .u64 ((((limb x) k + (limb y) k + cr x y c k) / BB : Nat) : Int)])]) (by kernel_rfl) rfl rfl ⟨by kernel_rfl, trivial⟩ rfl (ieq (cr_sum x y c k)),
        ob_p (Fi := [(13, .tuple #[.int .u64 ((((limb x) k + (limb y) k + cr x y c k) % BB : Nat) : Int), .int .u64 ((((limb x) k + (limb y) k + cr x y c k) / BB : Nat) : Int)])]) (by kernel_rfl) rfl rfl ⟨by kernel_rfl, trivial⟩ rfl (ieq (cr_carry x y c k)),
        ob_run (Fi := [(8, .pointer (some ⟨b4, 0, none⟩)), (14, .int .i64 ((k : Nat) : Int))]) (by kernel_rfl) rfl rfl ⟨by kernel_rfl, by kernel_rfl, trivial⟩ (fun a w st hk hxx w' => r_index st rfl rfl rfl (run_indexA' (k := k) (off := k) u47 s45 (by omega) (by first | rfl | omega) _)),
        ob_store (by kernel_rfl),
        ob_store (by kernel_rfl), trivial⟩ ?_
    intro a1 w1 hk1 st1 he
    clear hk1 st a w; revert st1 he; revert a1; revert w1; intro w a st he
    replace st := st.pickTo (F' := [(3, .pointer (some ⟨b1, 0, none⟩)), (4, .pointer (some ⟨b2, 0, none⟩)), (6, .pointer (some ⟨b3, 0, none⟩)), (8, .pointer (some ⟨b4, 0, none⟩)), (2, .int .u64 ((cr x y c k : Nat) : Int)), (10, .int .i64 ((k : Nat) : Int)), (11, .bool (decide (((k : Nat) : Int) < 16))), (12, .int .i64 ((k : Nat) : Int)), (9, .int .i64 ((k : Nat) : Int)), (23, .int .u64 ((limb (x + y + c) k : Nat) : Int)), (24, .int .u64 ((cr x y c (k + 1) : Nat) : Int)), (25, .pointer (some ⟨b4, k, none⟩))]) [3, 4, 6, 8, 2, 10, 11, 12, 9, 23, 24, 25] (by kernel_rfl)
    clear he
    change wpList _ _ _ [_, _] _ _
    refine x_store st 0 rfl rfl rfl rfl (run_store1' (st.at 0 rfl) s45 rfl (by rw [AF_size]; omega) AF_set) rfl rfl ?_
    clear st a w; intro a w st
    replace st := st.cast rfl (show _ = ([(b4, .cells (AF 16 (upd g k (limb (x + y + c) k))) 47 (0, 0)), (b3, .cells (Wd 0) 47 (0, 0)), (b2, .cells (Wd y) 47 (0, 0)), (b1, .cells (Wd x) 47 (0, 0))] : Hp) from rfl)
    refine xseg 1 st rfl ?_
    clear st a; intro a st
    refine x_nil ?_
    show NP _ _ _ _
    refine NP.normal ?_
    refine x_region ?_
    refine xp st (.int .i64 ((k + 1 : Nat) : Int)) rfl (wi64 (by omega) (by omega)) rfl rfl (by decide) ?_
    clear st a; intro a st
    refine xseg 1 st rfl ?_
    clear st a; intro a st
    refine x_nil ?_
    exact ⟨k + 1, ⟨_, st.pickTo [3, 4, 6, 8, 2, 10] (by kernel_rfl), by omega, fun i hi => plus_step x y c hg i hi⟩, by omega⟩
  · refine wp_exit ?_
    refine x_thenExit ?_
    refine x_thenExit ?_
    refine x_inBlock ?_
    refine x_seq ?_
    obtain rfl : k = 16 := by omega
    replace st := st.cast rfl (show _ = ([(b4, .cells (Wd (x + y + c)) 47 (0, 0)), (b3, .cells (Wd 0) 47 (0, 0)), (b2, .cells (Wd y) 47 (0, 0)), (b1, .cells (Wd x) 47 (0, 0))] : Hp) from by rw [AF_congr hg]; rfl)
    refine x_region ?_
    refine x_run (v := .agg (Wd (x + y + c))) st (r_load st rfl rfl (run_loadW (st.at 0 rfl) u47 rfl s47 (Wd_size _))) rfl rfl (by decide) ?_
    clear st a; intro a st
    refine xseg 1 st rfl ?_
    clear st a; intro a st
    refine x_store st 1 rfl rfl rfl rfl (run_storeW (st.at 1 rfl) (by first | exact s47 | simp only [s47, Wd_size]) (by first | rfl | simp only [Wd_size]) (AF_one _ _)) rfl rfl ?_
    clear st a w; intro a w st
    replace st := st.cast rfl (show _ = ([(b4, .cells (Wd (x + y + c)) 47 (0, 0)), (b3, .cells (Wd (x + y + c)) 47 (0, 0)), (b2, .cells (Wd y) 47 (0, 0)), (b1, .cells (Wd x) 47 (0, 0))] : Hp) from rfl)
    refine xseg 1 st rfl ?_
    clear st a; intro a st
    refine x_nil ?_
    refine x_wpret ?_
    exact x_retp st [.agg (Wd (x + y + c)), .int .u64 ((cr x y c 16 : Nat) : Int)] rfl ⟨⟨_, rfl, run_loadW (st.at 1 rfl) u47 rfl s47 (Wd_size _)⟩, rfl, trivial⟩ rfl (rfl)

set_option maxRecDepth 20000 in
set_option maxHeartbeats 1000000 in
theorem Of_ok  (v : Int) (hv : -9223372036854775808 ≤ v ∧ v < 9223372036854775808) (w0 : World) :
    Fn Tryd.prog 31 [.int .i64 v] w0 [] (fun r _ => r = .agg (Wd v)) := by
  refine x_enter' (n := 18) Tryd.func31 rfl rfl (Nat.le_of_ble_eq_true rfl) fun a w st => ?_
  refine x_seq ?_
  refine x_region ?_
  refine x_alloc st rfl z47 rfl rfl (by decide) ?_
  clear st a; intro a w b1 st
  replace st := st.cast rfl (show _ = ([(b1, .cells (Wd 0) 47 (0, 0))] : Hp) from rfl)
  refine x_nil ?_
  refine x_seq ?_
  refine x_region ?_
  refine x_alloc st rfl z47 rfl rfl (by decide) ?_
  clear st a; intro a w b2 st
  replace st := st.cast rfl (show _ = ([(b2, .cells (Wd 0) 47 (0, 0)), (b1, .cells (Wd 0) 47 (0, 0))] : Hp) from rfl)
  refine x_nil ?_
  refine x_seq ?_
  refine x_seq ?_
  refine x_region ?_
  refine xseg 1 st rfl ?_
  clear st a; intro a st
  refine x_nil ?_
  refine wp_block ?_
  refine x_loop (G := Nat) (fun k a w => ∃ g, St w0 [] 18 [(0, .int .i64 v), (2, .pointer (some ⟨b1, 0, none⟩)), (3, .pointer (some ⟨b2, 0, none⟩)), (5, .int .i64 ((k : Nat) : Int))] ([(b2, .cells (AF 16 g) 47 (0, 0)), (b1, .cells (Wd 0) 47 (0, 0))] : Hp) a w ∧ (k ≤ 16) ∧ (∀ i, 1 ≤ i → i < k → g i = limb v i)) (fun k => 16 - k) 0 ⟨_, st.pickTo [0, 2, 3, 5] (by kernel_rfl), by omega, fun i _ hi => by omega⟩ ?_
  clear st a w; intro k a w ⟨g, st, hk, hg⟩
  refine x_seq ?_
  refine x_region ?_
  refine xseg 1 st rfl ?_
  clear st a; intro a st
  refine x_nil ?_
  refine x_seq ?_
  refine x_condD st rfl (fun hc3 => ?_) (fun hc3 => ?_)
  · refine wp_skip ?_
    refine x_seq ?_
    refine wp_block ?_
    refine x_seq ?_
    refine x_region ?_
    refine xseg 2 st rfl ?_
    clear st a; intro a st
    refine x_nil ?_
    refine x_region ?_
    refine xseg 2 st rfl ?_
    clear st a; intro a st
    refine x_run (v := .int .i64 (v / 2 ^ 63)) st (r_num (v := .int .i64 (v / 2 ^ 63)) st rfl rfl rfl (run_shr (m := 63) (by decide) rfl _)) rfl rfl (by decide) ?_
    clear st a; intro a st
    refine x_run (v := .int .u64 (((v / 2 ^ 63 % 18446744073709551616).toNat : Nat) : Int)) st (r_conv (z := (((v / 2 ^ 63 % 18446744073709551616).toNat : Nat) : Int)) st rfl rfl u2 u45 (cvu64m (toNat_mod _))) rfl rfl (by decide) ?_
    clear st a; intro a st
    refine x_run (v := .pointer (some ⟨b2, k, none⟩)) st (r_index st rfl rfl rfl (run_indexA' (k := k) (off := k) u47 s45 (by omega) (by first | rfl | omega) _)) rfl rfl (by decide) ?_
    clear st a; intro a st
    refine x_store st 0 rfl rfl rfl rfl (run_store1' (st.at 0 rfl) s45 rfl (by rw [AF_size]; omega) AF_set) rfl rfl ?_
    clear st a w; intro a w st
    replace st := st.cast rfl (show _ = ([(b2, .cells (AF 16 (upd g k ((v / 2 ^ 63 % 18446744073709551616).toNat))) 47 (0, 0)), (b1, .cells (Wd 0) 47 (0, 0))] : Hp) from rfl)
    refine x_nil ?_
    refine x_region ?_
    refine xp st (.int .i64 ((k + 1 : Nat) : Int)) rfl (wi64 (by omega) (by omega)) rfl rfl (by decide) ?_
    clear st a; intro a st
    refine xseg 1 st rfl ?_
    clear st a; intro a st
    refine x_nil ?_
    exact ⟨k + 1, ⟨_, st.pickTo [0, 2, 3, 5] (by kernel_rfl), by omega, fun i h1 hi => upd_step hv hg i h1 hi⟩, by omega⟩
  · refine wp_exit ?_
    refine x_thenExit ?_
    refine x_thenExit ?_
    refine x_inBlock ?_
    refine x_seq ?_
    obtain rfl : k = 16 := by omega
    refine x_region ?_
    refine xseg 1 st rfl ?_
    clear st a; intro a st
    refine x_run (v := .int .u64 ((limb v 0 : Nat) : Int)) st (r_conv (z := ((limb v 0 : Nat) : Int)) st rfl rfl u2 u45 (cvu64m (limb0 v).symm)) rfl rfl (by decide) ?_
    clear st a; intro a st
    refine x_run (v := .pointer (some ⟨b2, 0, none⟩)) st (r_index st rfl rfl rfl (run_indexA' (k := 0) (off := 0) u47 s45 (by decide) (by first | rfl | omega) _)) rfl rfl (by decide) ?_
    clear st a; intro a st
    refine x_store st 0 rfl rfl rfl rfl (run_store1' (st.at 0 rfl) s45 rfl (by rw [AF_size]; decide) AF_set) rfl rfl ?_
    clear st a w; intro a w st
    replace st := st.cast rfl (show _ = ([(b2, .cells (AF 16 (upd g 0 (limb v 0))) 47 (0, 0)), (b1, .cells (Wd 0) 47 (0, 0))] : Hp) from rfl)
    refine x_nil ?_
    replace st := st.cast rfl (show _ = ([(b2, .cells (Wd v) 47 (0, 0)), (b1, .cells (Wd 0) 47 (0, 0))] : Hp) from by rw [AF_congr (upd0 hg)]; rfl)
    refine x_seq ?_
    refine x_region ?_
    refine x_run (v := .agg (Wd v)) st (r_load st rfl rfl (run_loadW (st.at 0 rfl) u47 rfl s47 (Wd_size _))) rfl rfl (by decide) ?_
    clear st a; intro a st
    refine x_store st 1 rfl rfl rfl rfl (run_storeW (st.at 1 rfl) (by first | exact s47 | simp only [s47, Wd_size]) (by first | rfl | simp only [Wd_size]) (AF_one _ _)) rfl rfl ?_
    clear st a w; intro a w st
    replace st := st.cast rfl (show _ = ([(b2, .cells (Wd v) 47 (0, 0)), (b1, .cells (Wd v) 47 (0, 0))] : Hp) from rfl)
    refine x_nil ?_
    refine x_wpret ?_
    exact x_retp st [.agg (Wd v)] rfl ⟨⟨_, rfl, run_loadW (st.at 1 rfl) u47 rfl s47 (Wd_size _)⟩, trivial⟩ rfl (rfl)

set_option maxRecDepth 20000 in
set_option maxHeartbeats 1000000 in
theorem inverse_ok  (x : Int) (w0 : World) :
    Fn Tryd.prog 28 [.agg (Wd x)] w0 [] (fun v _ => v = .agg (Wd (-x - 1))) := by
  refine x_enter' (n := 16) Tryd.func28 rfl rfl (Nat.le_of_ble_eq_true rfl) fun a w st => ?_
  refine x_seq ?_
  refine x_region ?_
  refine x_box st rfl rfl rfl rfl (by decide) ?_
  clear st a; intro a w b1 st
  refine x_alloc st rfl z47 rfl rfl (by decide) ?_
  clear st a; intro a w b2 st
  replace st := st.cast rfl (show _ = ([(b2, .cells (Wd 0) 47 (0, 0)), (b1, .cells (Wd x) 47 (0, 0))] : Hp) from rfl)
  refine x_nil ?_
  refine x_seq ?_
  refine x_seq ?_
  refine x_region ?_
  refine x_run (v := .agg (Wd x)) st (r_load st rfl rfl (run_loadW (st.at 1 rfl) u47 rfl s47 (Wd_size _))) rfl rfl (by decide) ?_
  clear st a; intro a st
  refine xseg 1 st rfl ?_
  clear st a; intro a st
  refine x_nil ?_
  refine wp_block ?_
  refine x_loop (G := Nat) (fun k a w => ∃ g, St w0 [] 16 [(1, .pointer (some ⟨b1, 0, none⟩)), (2, .pointer (some ⟨b2, 0, none⟩)), (5, .agg (Wd x)), (6, .int .i64 ((k : Nat) : Int))] ([(b2, .cells (Wd 0) 47 (0, 0)), (b1, .cells (AF 16 g) 47 (0, 0))] : Hp) a w ∧ (k ≤ 16) ∧ (∀ i, i < k → g i = limb (-x - 1) i)) (fun k => 16 - k) 0 ⟨_, st.pickTo [1, 2, 5, 6] (by kernel_rfl), by omega, fun i hi => by omega⟩ ?_
  clear st a w; intro k a w ⟨g, st, hk, hg⟩
  refine x_seq ?_
  refine x_region ?_
  refine xseg 1 st rfl ?_
  clear st a; intro a st
  refine x_nil ?_
  refine x_seq ?_
  refine x_condD st rfl (fun hc2 => ?_) (fun hc2 => ?_)
  · refine wp_skip ?_
    refine x_seq ?_
    refine wp_block ?_
    refine x_seq ?_
    refine x_region ?_
    refine xseg 1 st rfl ?_
    clear st a; intro a st
    refine x_run (v := .int .u64 (((limb x) k : Nat) : Int)) st (r_indexV st rfl rfl rfl (run_indexV (i := k) u47 u45 s45 (by omega) _)) rfl rfl (by decide) ?_
    clear st a; intro a st
    refine xseg 2 st rfl ?_
    clear st a; intro a st
    refine x_nil ?_
    refine x_region ?_
    refine xseg 2 st rfl ?_
    clear st a; intro a st
    refine x_run (v := .int .u64 ((limb (-x - 1) k : Nat) : Int)) st ((by rw [show (.int .u64 ((limb (-x - 1) k : Nat) : Int) : Value) = .int .u64 ((BB - 1 - ((limb x) k) : Nat) : Int) from (by rw [limb_inv])]; exact r_xor (m := (limb x) k) st rfl rfl (by first | exact limb_lt _ _ | omega))) rfl rfl (by decide) ?_
    clear st a; intro a st
    refine x_run (v := .pointer (some ⟨b1, k, none⟩)) st (r_index st rfl rfl rfl (run_indexA' (k := k) (off := k) u47 s45 (by omega) (by first | rfl | omega) _)) rfl rfl (by decide) ?_
    clear st a; intro a st
    refine x_store st 1 rfl rfl rfl rfl (run_store1' (st.at 1 rfl) s45 rfl (by rw [AF_size]; omega) AF_set) rfl rfl ?_
    clear st a w; intro a w st
    replace st := st.cast rfl (show _ = ([(b2, .cells (Wd 0) 47 (0, 0)), (b1, .cells (AF 16 (upd g k (limb (-x - 1) k))) 47 (0, 0))] : Hp) from rfl)
    refine x_nil ?_
    refine x_region ?_
    refine xp st (.int .i64 ((k + 1 : Nat) : Int)) rfl (wi64 (by omega) (by omega)) rfl rfl (by decide) ?_
    clear st a; intro a st
    refine xseg 1 st rfl ?_
    clear st a; intro a st
    refine x_nil ?_
    exact ⟨k + 1, ⟨_, st.pickTo [1, 2, 5, 6] (by kernel_rfl), by omega, fun i hi => updS hg i hi⟩, by omega⟩
  · refine wp_exit ?_
    refine x_thenExit ?_
    refine x_thenExit ?_
    refine x_inBlock ?_
    refine x_seq ?_
    obtain rfl : k = 16 := by omega
    replace st := st.cast rfl (show _ = ([(b2, .cells (Wd 0) 47 (0, 0)), (b1, .cells (Wd (-x - 1)) 47 (0, 0))] : Hp) from by rw [AF_congr hg]; rfl)
    refine x_region ?_
    refine x_run (v := .agg (Wd (-x - 1))) st (r_load st rfl rfl (run_loadW (st.at 1 rfl) u47 rfl s47 (Wd_size _))) rfl rfl (by decide) ?_
    clear st a; intro a st
    refine x_store st 0 rfl rfl rfl rfl (run_storeW (st.at 0 rfl) (by first | exact s47 | simp only [s47, Wd_size]) (by first | rfl | simp only [Wd_size]) (AF_one _ _)) rfl rfl ?_
    clear st a w; intro a w st
    replace st := st.cast rfl (show _ = ([(b2, .cells (Wd (-x - 1)) 47 (0, 0)), (b1, .cells (Wd (-x - 1)) 47 (0, 0))] : Hp) from rfl)
    refine x_nil ?_
    refine x_wpret ?_
    exact x_retp st [.agg (Wd (-x - 1))] rfl ⟨⟨_, rfl, run_loadW (st.at 0 rfl) u47 rfl s47 (Wd_size _)⟩, trivial⟩ rfl (rfl)

set_option maxRecDepth 20000 in
set_option maxHeartbeats 1000000 in
theorem Neg_ok  (x : Int) (w0 : World) :
    Fn Tryd.prog 56 [.agg (Wd x)] w0 [] (fun v _ => v = .agg (Wd (-x))) := by
  refine x_enter' (n := 13) Tryd.func56 rfl rfl (Nat.le_of_ble_eq_true rfl) fun a w st => ?_
  refine x_seq ?_
  refine x_region ?_
  refine x_box st rfl rfl rfl rfl (by decide) ?_
  clear st a; intro a w b1 st
  refine x_alloc st rfl z47 rfl rfl (by decide) ?_
  clear st a; intro a w b2 st
  replace st := st.cast rfl (show _ = ([(b2, .cells (Wd 0) 47 (0, 0)), (b1, .cells (Wd x) 47 (0, 0))] : Hp) from rfl)
  refine x_nil ?_
  refine x_seq ?_
  refine x_region ?_
  refine x_run (v := .agg (Wd 0)) st (r_build0 bz47 rfl) rfl rfl (by decide) ?_
  clear st a; intro a st
  refine x_run (v := .agg (Wd x)) st (r_load st rfl rfl (run_loadW (st.at 1 rfl) u47 rfl s47 (Wd_size _))) rfl rfl (by decide) ?_
  clear st a; intro a st
  refine x_call st rfl rfl ent28 rfl rfl (by decide) (inverse_ok x _) ?_
  intro a1 w1 v1 hk1 hv hn st1; subst hv
  clear hn hk1 st a w; revert st1; revert a1; revert w1; intro w a st
  refine x_call st rfl rfl ent27 rfl rfl (by decide) ((plus_ok 0 (-x - 1) 1 (by omega) _)) ?_
  intro a1 w1 v1 hk1 hv hn st1; subst hv
  clear hn hk1 st a w; revert st1; revert a1; revert w1; intro w a st
  refine xseg 3 st rfl ?_
  clear st a; intro a st
  refine x_alloc st rfl z47 rfl rfl (by decide) ?_
  clear st a; intro a w b3 st
  replace st := st.cast rfl (show _ = ([(b3, .cells (Wd 0) 47 (0, 0)), (b2, .cells (Wd 0) 47 (0, 0)), (b1, .cells (Wd x) 47 (0, 0))] : Hp) from rfl)
  refine x_store st 0 rfl rfl rfl rfl (run_storeW (st.at 0 rfl) (by first | exact s47 | simp only [s47, Wd_size]) (by first | rfl | simp only [Wd_size]) (AF_one _ _)) rfl rfl ?_
  clear st a w; intro a w st
  replace st := st.cast rfl (show _ = ([(b3, .cells (Wd (0 + (-x - 1) + ((1 : Nat) : Int))) 47 (0, 0)), (b2, .cells (Wd 0) 47 (0, 0)), (b1, .cells (Wd x) 47 (0, 0))] : Hp) from rfl)
  refine xseg 1 st rfl ?_
  clear st a; intro a st
  refine x_nil ?_
  replace st := st.cast rfl (show _ = ([(b3, .cells (Wd (-x)) 47 (0, 0)), (b2, .cells (Wd 0) 47 (0, 0)), (b1, .cells (Wd x) 47 (0, 0))] : Hp) from by rw [neg_eq])
  refine x_seq ?_
  refine x_region ?_
  refine x_run (v := .agg (Wd (-x))) st (r_load st rfl rfl (run_loadW (st.at 0 rfl) u47 rfl s47 (Wd_size _))) rfl rfl (by decide) ?_
  clear st a; intro a st
  refine x_store st 1 rfl rfl rfl rfl (run_storeW (st.at 1 rfl) (by first | exact s47 | simp only [s47, Wd_size]) (by first | rfl | simp only [Wd_size]) (AF_one _ _)) rfl rfl ?_
  clear st a w; intro a w st
  replace st := st.cast rfl (show _ = ([(b3, .cells (Wd (-x)) 47 (0, 0)), (b2, .cells (Wd (-x)) 47 (0, 0)), (b1, .cells (Wd x) 47 (0, 0))] : Hp) from rfl)
  refine x_nil ?_
  refine x_wpret ?_
  exact x_retp st [.agg (Wd (-x))] rfl ⟨⟨_, rfl, run_loadW (st.at 1 rfl) u47 rfl s47 (Wd_size _)⟩, trivial⟩ rfl (rfl)

set_option maxRecDepth 20000 in
set_option maxHeartbeats 1000000 in
theorem Sign_ok  (x : Int) (hx : inR x) (w0 : World) :
    Fn Tryd.prog 17 [.agg (Wd x)] w0 [] (fun v _ => v = .int .i64 x.sign) := by
  refine x_enter' (n := 10) Tryd.func17 rfl rfl (Nat.le_of_ble_eq_true rfl) fun a w st => ?_
  refine x_seq ?_
  refine x_region ?_
  refine x_box st rfl rfl rfl rfl (by decide) ?_
  clear st a; intro a w b1 st
  refine xseg 1 st rfl ?_
  clear st a; intro a st
  refine x_nil ?_
  refine x_seq ?_
  refine wp_block ?_
  refine x_seq ?_
  refine x_region ?_
  refine x_run (v := .agg (Wd x)) st (r_load st rfl rfl (run_loadW (st.at 0 rfl) u47 rfl s47 (Wd_size _))) rfl rfl (by decide) ?_
  clear st a; intro a st
  refine x_call st rfl rfl ent29 rfl rfl (by decide) (below_ok x (by first | assumption | exact inR_64 (by first | assumption | omega)) _) ?_
  intro a1 w1 v1 hk1 hv hn st1; subst hv
  clear hn hk1 st a w; revert st1; revert a1; revert w1; intro w a st
  refine xseg 1 st rfl ?_
  clear st a; intro a st
  refine x_nil ?_
  refine x_condD st rfl (fun h1 => ?_) (fun h1 => ?_)
  · refine x_seq ?_
    refine x_region ?_
    refine xseg 1 st rfl ?_
    clear st a; intro a st
    refine x_nil ?_
    refine x_wpret ?_
    refine x_blockRet ?_
    refine x_thenRet ?_
    exact x_retp st [.int .i64 (-1)] rfl ⟨rfl, trivial⟩ rfl (ieq (by first | (rw [Int.sign_eq_neg_one_of_neg h1]) | (simp_all; done) | (rw [Int.sign_eq_one_of_pos (by omega)])))
  · refine x_seq ?_
    refine x_region ?_
    refine x_run (v := .agg (Wd x)) st (r_load st rfl rfl (run_loadW (st.at 0 rfl) u47 rfl s47 (Wd_size _))) rfl rfl (by decide) ?_
    clear st a; intro a st
    refine x_run (v := .agg (Wd 0)) st (r_build0 bz47 rfl) rfl rfl (by decide) ?_
    clear st a; intro a st
    refine x_run (v := .bool (decide (x = 0))) st ((by rw [show (.bool (decide (x = 0)) : Value) = .bool (eqRow 16 (limb x) (limb 0)) from (beq (eqRow_Wd hx (inR_64 (by omega))).symm)]; exact r_eqRow (neq := false) (g := limb x) (h := limb 0) st rfl rfl rfl u47 u45 s45 q47)) rfl rfl (by decide) ?_
    clear st a; intro a st
    refine xseg 1 st rfl ?_
    clear st a; intro a st
    refine x_nil ?_
    refine x_condD st rfl (fun h3 => ?_) (fun h3 => ?_)
    · refine x_seq ?_
      refine x_region ?_
      refine xseg 1 st rfl ?_
      clear st a; intro a st
      refine x_nil ?_
      refine x_wpret ?_
      refine x_blockRet ?_
      refine x_thenRet ?_
      exact x_retp st [.int .i64 0] rfl ⟨rfl, trivial⟩ rfl (ieq (by first | (rw [Int.sign_eq_neg_one_of_neg h1]) | (simp_all; done) | (rw [Int.sign_eq_one_of_pos (by omega)])))
    · refine wp_skip ?_
      refine x_seq ?_
      refine x_region ?_
      refine xseg 1 st rfl ?_
      clear st a; intro a st
      refine x_nil ?_
      refine x_wpret ?_
      exact x_retp st [.int .i64 1] rfl ⟨rfl, trivial⟩ rfl (ieq (by first | (rw [Int.sign_eq_neg_one_of_neg h1]) | (simp_all; done) | (rw [Int.sign_eq_one_of_pos (by omega)])))

set_option maxRecDepth 20000 in
set_option maxHeartbeats 1000000 in
theorem amount_ok  (x : Int) (hx : inR x) (w0 : World) :
    Fn Tryd.prog 41 [.agg (Wd x)] w0 [] (fun v _ => v = .agg (Wd x.natAbs)) := by
  refine x_enter' (n := 8) Tryd.func41 rfl rfl (Nat.le_of_ble_eq_true rfl) fun a w st => ?_
  refine x_seq ?_
  refine x_region ?_
  refine x_box st rfl rfl rfl rfl (by decide) ?_
  clear st a; intro a w b1 st
  refine x_alloc st rfl z47 rfl rfl (by decide) ?_
  clear st a; intro a w b2 st
  replace st := st.cast rfl (show _ = ([(b2, .cells (Wd 0) 47 (0, 0)), (b1, .cells (Wd x) 47 (0, 0))] : Hp) from rfl)
  refine x_nil ?_
  refine x_seq ?_
  refine x_seq ?_
  refine x_region ?_
  refine x_run (v := .agg (Wd x)) st (r_load st rfl rfl (run_loadW (st.at 1 rfl) u47 rfl s47 (Wd_size _))) rfl rfl (by decide) ?_
  clear st a; intro a st
  refine x_call st rfl rfl ent29 rfl rfl (by decide) (below_ok x (by first | assumption | exact inR_64 (by first | assumption | omega)) _) ?_
  intro a1 w1 v1 hk1 hv hn st1; subst hv
  clear hn hk1 st a w; revert st1; revert a1; revert w1; intro w a st
  refine x_nil ?_
  refine x_condD st rfl (fun h1 => ?_) (fun h1 => ?_)
  · refine x_seq ?_
    refine x_region ?_
    refine x_run (v := .agg (Wd x)) st (r_load st rfl rfl (run_loadW (st.at 1 rfl) u47 rfl s47 (Wd_size _))) rfl rfl (by decide) ?_
    clear st a; intro a st
    refine x_call st rfl rfl ent56 rfl rfl (by decide) (Neg_ok x _) ?_
    intro a1 w1 v1 hk1 hv hn st1; subst hv
    clear hn hk1 st a w; revert st1; revert a1; revert w1; intro w a st
    refine x_store st 0 rfl rfl rfl rfl (run_storeW (st.at 0 rfl) (by first | exact s47 | simp only [s47, Wd_size]) (by first | rfl | simp only [Wd_size]) (AF_one _ _)) rfl rfl ?_
    clear st a w; intro a w st
    replace st := st.cast rfl (show _ = ([(b2, .cells (Wd (-x)) 47 (0, 0)), (b1, .cells (Wd x) 47 (0, 0))] : Hp) from rfl)
    refine x_nil ?_
    refine x_wpret ?_
    refine x_thenRet ?_
    exact x_retp st [.agg (Wd (-x))] rfl ⟨⟨_, rfl, run_loadW (st.at 0 rfl) u47 rfl s47 (Wd_size _)⟩, trivial⟩ rfl (wd_abs (by omega))
  · refine wp_skip ?_
    refine x_seq ?_
    refine x_region ?_
    refine x_run (v := .agg (Wd x)) st (r_load st rfl rfl (run_loadW (st.at 1 rfl) u47 rfl s47 (Wd_size _))) rfl rfl (by decide) ?_
    clear st a; intro a st
    refine x_store st 0 rfl rfl rfl rfl (run_storeW (st.at 0 rfl) (by first | exact s47 | simp only [s47, Wd_size]) (by first | rfl | simp only [Wd_size]) (AF_one _ _)) rfl rfl ?_
    clear st a w; intro a w st
    replace st := st.cast rfl (show _ = ([(b2, .cells (Wd x) 47 (0, 0)), (b1, .cells (Wd x) 47 (0, 0))] : Hp) from rfl)
    refine x_nil ?_
    refine x_wpret ?_
    exact x_retp st [.agg (Wd x)] rfl ⟨⟨_, rfl, run_loadW (st.at 0 rfl) u47 rfl s47 (Wd_size _)⟩, trivial⟩ rfl (wd_abs (by omega))

set_option maxRecDepth 20000 in
set_option maxHeartbeats 1000000 in
theorem Int64_ok  (x : Int) (hx : inR x) (w0 : World) :
    Fn Tryd.prog 46 [.agg (Wd x)] w0 [] (fun v _ => v = .tuple #[.int .i64 (i64of x), .bool (fit64 x)]) := by
  have hl := low64_in x
  refine x_enter' (n := 13) Tryd.func46 rfl rfl (Nat.le_of_ble_eq_true rfl) fun a w st => ?_
  refine x_seq ?_
  refine x_region ?_
  refine x_box st rfl rfl rfl rfl (by decide) ?_
  clear st a; intro a w b1 st
  refine xseg 2 st rfl ?_
  clear st a; intro a st
  refine x_nil ?_
  refine x_seq ?_
  refine x_region ?_
  refine x_run (v := .pointer (some ⟨b1, 0, none⟩)) st (r_index st rfl rfl rfl (run_indexA' (k := 0) (off := 0) u47 s45 (by decide) (by first | rfl | omega) _)) rfl rfl (by decide) ?_
  clear st a; intro a st
  refine x_run (v := .int .u64 (((limb x) 0 : Nat) : Int)) st (r_load st rfl rfl (run_load1 (st.at 0 rfl) u45 rfl (AF_get (by decide)))) rfl rfl (by decide) ?_
  clear st a; intro a st
  refine x_run (v := .int .i64 (low64 x)) st (r_conv (z := low64 x) st rfl rfl u45 u2 rfl) rfl rfl (by decide) ?_
  clear st a; intro a st
  refine xseg 1 st rfl ?_
  clear st a; intro a st
  refine x_nil ?_
  refine x_seq ?_
  refine x_seq ?_
  refine x_draw st [] [.det (.int .i64 (low64 x)), .det (.agg (Wd (low64 x))), .det (.agg (Wd x)), .det (.bool (!(fit64 x)))] mixed (by kernel_rfl)
    ⟨ob_p (Fi := [(4, .int .i64 (low64 x))]) (by kernel_rfl) rfl rfl ⟨by kernel_rfl, trivial⟩ rfl rfl,
      ob_call (Fi := [(8, .int .i64 (low64 x))]) (by kernel_rfl) rfl ent31 rfl ⟨by kernel_rfl, trivial⟩ rfl (fun a w st hk hxx => Of_ok (low64 x) (by first | assumption | omega) _) (fun _ _ _ _ hp => ⟨hp, fun b hb => by cases hb⟩),
      ob_w (Fi := [(1, .pointer (some ⟨b1, 0, none⟩))]) (by kernel_rfl) rfl rfl ⟨by kernel_rfl, trivial⟩ (fun a w st hk hxx => r_load st rfl rfl (run_loadW (st.at 0 rfl) u47 rfl s47 (Wd_size _))),
      ob_run (Fi := [(9, .agg (Wd (low64 x))), (10, .agg (Wd x))]) (by kernel_rfl) rfl rfl ⟨by kernel_rfl, by kernel_rfl, trivial⟩ (fun a w st hk hxx w' => (by rw [show (.bool (!(fit64 x)) : Value) = .bool (!(eqRow 16 (limb (low64 x)) (limb x))) from (beq (by rw [eqRow_Wd (inR_64 hl) hx, low64_fit x hx]))]; exact r_eqRow (neq := true) (g := limb (low64 x)) (h := limb x) st rfl rfl rfl u47 u45 s45 q47)), trivial⟩ ?_
  intro a1 w1 hk1 st1 he
  clear hk1 st a w; revert st1 he; revert a1; revert w1; intro w a st he
  replace st := st.pickTo (F' := [(0, .agg (Wd x)), (1, .pointer (some ⟨b1, 0, none⟩)), (2, .int .i64 0), (3, .bool false), (5, .pointer (some ⟨b1, 0, none⟩)), (6, .int .u64 (((limb x) 0 : Nat) : Int)), (7, .int .i64 (low64 x)), (4, .int .i64 (low64 x)), (11, .bool (!(fit64 x)))]) [0, 1, 2, 3, 5, 6, 7, 4, 11] (by kernel_rfl)
  clear he
  change wpList _ _ _ [] _ _
  refine x_nil ?_
  show NP _ _ _ _
  refine NP.normal ?_
  refine x_cond st rfl (fun h1 => ?_) (fun h1 => ?_)
  · refine x_seq ?_
    refine x_region ?_
    refine xseg 2 st rfl ?_
    clear st a; intro a st
    refine x_nil ?_
    refine x_wpret ?_
    refine x_thenRet ?_
    exact x_retp st [.int .i64 0, .bool false] rfl ⟨rfl, rfl, trivial⟩ rfl (by unfold i64of; rw [show fit64 x = false from by simpa using h1]; rfl)
  · refine wp_skip ?_
    refine x_seq ?_
    refine x_region ?_
    refine xseg 3 st rfl ?_
    clear st a; intro a st
    refine x_nil ?_
    refine x_wpret ?_
    exact x_retp st [.int .i64 (low64 x), .bool true] rfl ⟨rfl, rfl, trivial⟩ rfl (by have h2 : fit64 x = true := (by simpa using h1); unfold i64of; rw [h2, low64_eq x h2]; rfl)

end Go.Proofs.YtnkbhmonceiocaaDoor
