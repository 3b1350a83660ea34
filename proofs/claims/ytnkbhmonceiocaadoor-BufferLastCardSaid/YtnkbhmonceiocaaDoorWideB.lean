/-
  The package wide of the program: Add, Sub: what they return, for every two numbers.
-/
import Derived.Test.YtnkbhmonceiocaaDoorWideA
namespace Go.Proofs.YtnkbhmonceiocaaDoor
open Go Go.RowKit
namespace FWideB
theorem bz47 (w : World) : (Instr.build 47 #[]).run Tryd.prog w = .ok (.agg (Wd 0)) w := by kernel_rfl
theorem ent27 (args : Array Value) (w : World) : (callFunc 27 args).run Tryd.prog w = .ok (.enter 27 args) w := enters_at Tryd.func27 (by kernel_rfl) rfl args w
theorem ent28 (args : Array Value) (w : World) : (callFunc 28 args).run Tryd.prog w = .ok (.enter 28 args) w := enters_at Tryd.func28 (by kernel_rfl) rfl args w
theorem ent29 (args : Array Value) (w : World) : (callFunc 29 args).run Tryd.prog w = .ok (.enter 29 args) w := enters_at Tryd.func29 (by kernel_rfl) rfl args w
theorem mixed : Tryd.prog.follows .mixedOrders = true := by kernel_rfl
theorem s47 : (Tryd.prog.info? 47).map (·.size) = some 16 := by kernel_rfl
theorem u4 : Tryd.prog.underlying 4 = some (.bool) := by kernel_rfl
theorem u47 : Tryd.prog.underlying 47 = some (.array 16 45) := by kernel_rfl
theorem z47 : (Tryd.prog.info? 47).bind (·.zero) = some (.agg (#[.int .u64 0, .int .u64 0, .int .u64 0, .int .u64 0, .int .u64 0, .int .u64 0, .int .u64 0, .int .u64 0, .int .u64 0, .int .u64 0, .int .u64 0, .int .u64 0, .int .u64 0, .int .u64 0, .int .u64 0, .int .u64 0])) := by kernel_rfl
end FWideB
open FWideB
set_option maxRecDepth 20000 in
set_option maxHeartbeats 1000000 in
theorem Add_all  (x y : Int) (hx : inR x) (hy : inR y) (w0 : World) :
    Fn Tryd.prog 44 [.agg (Wd x), .agg (Wd y)] w0 [] (fun v _ => v = .tuple #[.agg (Wd (bif inRb (x + y) then x + y else 0)), .bool (inRb (x + y))]) := by
  refine x_enter' (n := 28) Tryd.func44 rfl rfl (Nat.le_of_ble_eq_true rfl) fun a w st => ?_
  refine x_seq ?_
  refine x_region ?_
  refine x_box st rfl rfl rfl rfl (by decide) ?_
  clear st a; intro a w b1 st
  refine x_box st rfl rfl rfl rfl (by decide) ?_
  clear st a; intro a w b2 st
  refine x_alloc st rfl z47 rfl rfl (by decide) ?_
  clear st a; intro a w b3 st
  replace st := st.cast rfl (show _ = ([(b3, .cells (Wd 0) 47 (0, 0)), (b2, .cells (Wd y) 47 (0, 0)), (b1, .cells (Wd x) 47 (0, 0))] : Hp) from rfl)
  refine xseg 1 st rfl ?_
  clear st a; intro a st
  refine x_nil ?_
  refine x_seq ?_
  refine x_region ?_
  refine x_run (v := .agg (Wd x)) st (r_load st rfl rfl (run_loadW (st.at 2 rfl) u47 rfl s47 (Wd_size _))) rfl rfl (by decide) ?_
  clear st a; intro a st
  refine x_run (v := .agg (Wd y)) st (r_load st rfl rfl (run_loadW (st.at 1 rfl) u47 rfl s47 (Wd_size _))) rfl rfl (by decide) ?_
  clear st a; intro a st
  refine x_call st rfl rfl ent27 rfl rfl (by decide) (plus_ok x y 0 (by omega) _) ?_
  intro a1 w1 v1 hk1 hv hn st1; subst hv
  clear hn hk1 st a w; revert st1; revert a1; revert w1; intro w a st
  refine xseg 1 st rfl ?_
  clear st a; intro a st
  refine xp st (.agg (Wd (nrm (x + y)))) rfl (agg_wd (add0 x y)) rfl rfl (by decide) ?_
  clear st a; intro a st
  refine xseg 1 st rfl ?_
  clear st a; intro a st
  refine x_alloc st rfl z47 rfl rfl (by decide) ?_
  clear st a; intro a w b4 st
  replace st := st.cast rfl (show _ = ([(b4, .cells (Wd 0) 47 (0, 0)), (b3, .cells (Wd 0) 47 (0, 0)), (b2, .cells (Wd y) 47 (0, 0)), (b1, .cells (Wd x) 47 (0, 0))] : Hp) from rfl)
  refine x_store st 0 rfl rfl rfl rfl (run_storeW (st.at 0 rfl) (by first | exact s47 | simp only [s47, Wd_size]) (by first | rfl | simp only [Wd_size]) (AF_one _ _)) rfl rfl ?_
  clear st a w; intro a w st
  replace st := st.cast rfl (show _ = ([(b4, .cells (Wd (nrm (x + y))) 47 (0, 0)), (b3, .cells (Wd 0) 47 (0, 0)), (b2, .cells (Wd y) 47 (0, 0)), (b1, .cells (Wd x) 47 (0, 0))] : Hp) from rfl)
  refine xseg 1 st rfl ?_
  clear st a; intro a st
  refine x_nil ?_
  refine x_seq ?_
  refine x_seq ?_
  rcases Bool.eq_false_or_eq_true (decide (x < 0) == decide (y < 0)) with hs | hs
  · have hin := nrm_in (x + y)
    refine x_draw st [] [.det (.agg (Wd x)), .det (.bool (decide (x < 0))), .det (.agg (Wd y)), .det (.bool (decide (y < 0))), .det (.bool true), .det (.bool true), .det (.agg (Wd (nrm (x + y)))), .det (.bool (decide ((nrm (x + y)) < 0))), .det (.agg (Wd x)), .det (.bool (decide (x < 0))), .det (.bool ((decide ((nrm (x + y)) < 0)) != (decide (x < 0)))), .det (.bool ((decide ((nrm (x + y)) < 0)) != (decide (x < 0))))] mixed (by kernel_rfl)
      ⟨ob_w (Fi := [(2, .pointer (some ⟨b1, 0, none⟩))]) (by kernel_rfl) rfl rfl ⟨by kernel_rfl, trivial⟩ (fun a w st hk hxx => r_load st rfl rfl (run_loadW (st.at 3 rfl) u47 rfl s47 (Wd_size _))),
        ob_call (Fi := [(14, .agg (Wd x))]) (by kernel_rfl) rfl ent29 rfl ⟨by kernel_rfl, trivial⟩ rfl (fun a w st hk hxx => below_ok x (by first | assumption | exact inR_64 (by first | assumption | omega)) _) (fun _ _ _ _ hp => ⟨hp, fun b hb => by cases hb⟩),
        ob_w (Fi := [(3, .pointer (some ⟨b2, 0, none⟩))]) (by kernel_rfl) rfl rfl ⟨by kernel_rfl, trivial⟩ (fun a w st hk hxx => r_load st rfl rfl (run_loadW (st.at 2 rfl) u47 rfl s47 (Wd_size _))),
        ob_call (Fi := [(16, .agg (Wd y))]) (by kernel_rfl) rfl ent29 rfl ⟨by kernel_rfl, trivial⟩ rfl (fun a w st hk hxx => below_ok y (by first | assumption | exact inR_64 (by first | assumption | omega)) _) (fun _ _ _ _ hp => ⟨hp, fun b hb => by cases hb⟩),
        ob_run (Fi := [(15, .bool (decide (x < 0))), (17, .bool (decide (y < 0)))]) (by kernel_rfl) rfl rfl ⟨by kernel_rfl, by kernel_rfl, trivial⟩ (fun a w st hk hxx w' => (by rw [show (.bool true : Value) = .bool ((decide (x < 0)) == (decide (y < 0))) from (beq hs.symm)]; exact r_eqBool st rfl rfl rfl u4)),
        ob_p (Fi := [(18, .bool true)]) (by kernel_rfl) rfl rfl ⟨by kernel_rfl, trivial⟩ rfl rfl,
        ob_guard (u := .agg (Wd (nrm (x + y)))) (c := true) (b := true) (by kernel_rfl) rfl rfl (by kernel_rfl) (by first | rfl | simp) (ob_w (Fi := [(6, .pointer (some ⟨b4, 0, none⟩))]) (by kernel_rfl) rfl rfl ⟨by kernel_rfl, trivial⟩ (fun a w st hk hxx => r_load st rfl rfl (run_loadW (st.at 0 rfl) u47 rfl s47 (Wd_size _)))),
        ob_guard (u := .bool (decide ((nrm (x + y)) < 0))) (c := true) (b := true) (by kernel_rfl) rfl rfl (by kernel_rfl) (by first | rfl | simp) (ob_call (Fi := [(20, .agg (Wd (nrm (x + y))))]) (by kernel_rfl) rfl ent29 rfl ⟨by kernel_rfl, trivial⟩ rfl (fun a w st hk hxx => below_ok (nrm (x + y)) (by first | assumption | exact inR_64 (by first | assumption | omega)) _) (fun _ _ _ _ hp => ⟨hp, fun b hb => by cases hb⟩)),
        ob_guard (u := .agg (Wd x)) (c := true) (b := true) (by kernel_rfl) rfl rfl (by kernel_rfl) (by first | rfl | simp) (ob_w (Fi := [(2, .pointer (some ⟨b1, 0, none⟩))]) (by kernel_rfl) rfl rfl ⟨by kernel_rfl, trivial⟩ (fun a w st hk hxx => r_load st rfl rfl (run_loadW (st.at 3 rfl) u47 rfl s47 (Wd_size _)))),
        ob_guard (u := .bool (decide (x < 0))) (c := true) (b := true) (by kernel_rfl) rfl rfl (by kernel_rfl) (by first | rfl | simp) (ob_call (Fi := [(22, .agg (Wd x))]) (by kernel_rfl) rfl ent29 rfl ⟨by kernel_rfl, trivial⟩ rfl (fun a w st hk hxx => below_ok x (by first | assumption | exact inR_64 (by first | assumption | omega)) _) (fun _ _ _ _ hp => ⟨hp, fun b hb => by cases hb⟩)),
        ob_guard (u := .bool ((decide ((nrm (x + y)) < 0)) != (decide (x < 0)))) (c := true) (b := true) (by kernel_rfl) rfl rfl (by kernel_rfl) (by first | rfl | simp) (ob_run (Fi := [(21, .bool (decide ((nrm (x + y)) < 0))), (23, .bool (decide (x < 0)))]) (by kernel_rfl) rfl rfl ⟨by kernel_rfl, by kernel_rfl, trivial⟩ (fun a w st hk hxx w' => r_neqBool st rfl rfl rfl u4)),
        ob_p (Fi := [(19, .bool true), (24, .bool ((decide ((nrm (x + y)) < 0)) != (decide (x < 0))))]) (by kernel_rfl) rfl rfl ⟨by kernel_rfl, by kernel_rfl, trivial⟩ rfl rfl, trivial⟩ ?_
    intro a1 w1 hk1 st1 he
    clear hk1 st a w; revert st1 he; revert a1; revert w1; intro w a st he
    replace st := st.pickTo (F' := [(0, .agg (Wd x)), (1, .agg (Wd y)), (2, .pointer (some ⟨b1, 0, none⟩)), (3, .pointer (some ⟨b2, 0, none⟩)), (4, .pointer (some ⟨b3, 0, none⟩)), (5, .bool false), (9, .agg (Wd x)), (10, .agg (Wd y)), (11, .tuple #[.agg (Wd (x + y + ((0 : Nat) : Int))), .int .u64 ((cr x y 0 16 : Nat) : Int)]), (8, .tuple #[.agg (Wd (x + y + ((0 : Nat) : Int))), .int .u64 ((cr x y 0 16 : Nat) : Int)]), (12, .agg (Wd (nrm (x + y)))), (13, .int .u64 ((cr x y 0 16 : Nat) : Int)), (6, .pointer (some ⟨b4, 0, none⟩)), (7, .int .u64 ((cr x y 0 16 : Nat) : Int)), (25, .bool ((decide ((nrm (x + y)) < 0)) != (decide (x < 0))))]) [0, 1, 2, 3, 4, 5, 9, 10, 11, 8, 12, 13, 6, 7, 25] (by kernel_rfl)
    clear he
    change wpList _ _ _ [] _ _
    refine x_nil ?_
    show NP _ _ _ _
    refine NP.normal ?_
    refine x_cond st rfl (fun h2 => ?_) (fun h2 => ?_)
    · refine x_seq ?_
      refine x_region ?_
      refine x_run (v := .agg (Wd 0)) st (r_build0 bz47 rfl) rfl rfl (by decide) ?_
      clear st a; intro a st
      refine x_store st 1 rfl rfl rfl rfl (run_storeW (st.at 1 rfl) (by first | exact s47 | simp only [s47, Wd_size]) (by first | rfl | simp only [Wd_size]) (AF_one _ _)) rfl rfl ?_
      clear st a w; intro a w st
      replace st := st.cast rfl (show _ = ([(b4, .cells (Wd (nrm (x + y))) 47 (0, 0)), (b3, .cells (Wd 0) 47 (0, 0)), (b2, .cells (Wd y) 47 (0, 0)), (b1, .cells (Wd x) 47 (0, 0))] : Hp) from rfl)
      refine xseg 1 st rfl ?_
      clear st a; intro a st
      refine x_nil ?_
      refine x_wpret ?_
      refine x_thenRet ?_
      exact x_retp st [.agg (Wd 0), .bool false] rfl ⟨⟨_, rfl, run_loadW (st.at 1 rfl) u47 rfl s47 (Wd_size _)⟩, rfl, trivial⟩ rfl (add_no hx hy hs h2)
    · refine wp_skip ?_
      refine x_seq ?_
      refine x_region ?_
      refine x_run (v := .agg (Wd (nrm (x + y)))) st (r_load st rfl rfl (run_loadW (st.at 0 rfl) u47 rfl s47 (Wd_size _))) rfl rfl (by decide) ?_
      clear st a; intro a st
      refine x_store st 1 rfl rfl rfl rfl (run_storeW (st.at 1 rfl) (by first | exact s47 | simp only [s47, Wd_size]) (by first | rfl | simp only [Wd_size]) (AF_one _ _)) rfl rfl ?_
      clear st a w; intro a w st
      replace st := st.cast rfl (show _ = ([(b4, .cells (Wd (nrm (x + y))) 47 (0, 0)), (b3, .cells (Wd (nrm (x + y))) 47 (0, 0)), (b2, .cells (Wd y) 47 (0, 0)), (b1, .cells (Wd x) 47 (0, 0))] : Hp) from rfl)
      refine xseg 1 st rfl ?_
      clear st a; intro a st
      refine x_nil ?_
      refine x_wpret ?_
      exact x_retp st [.agg (Wd (nrm (x + y))), .bool true] rfl ⟨⟨_, rfl, run_loadW (st.at 1 rfl) u47 rfl s47 (Wd_size _)⟩, rfl, trivial⟩ rfl (add_yes hx hy (.inr h2))
  · have hin := nrm_in (x + y)
    refine x_draw st [] [.det (.agg (Wd x)), .det (.bool (decide (x < 0))), .det (.agg (Wd y)), .det (.bool (decide (y < 0))), .det (.bool false), .det (.bool false), .det undef, .det undef, .det undef, .det undef, .det undef, .det (.bool false)] mixed (by kernel_rfl)
      ⟨ob_w (Fi := [(2, .pointer (some ⟨b1, 0, none⟩))]) (by kernel_rfl) rfl rfl ⟨by kernel_rfl, trivial⟩ (fun a w st hk hxx => r_load st rfl rfl (run_loadW (st.at 3 rfl) u47 rfl s47 (Wd_size _))),
        ob_call (Fi := [(14, .agg (Wd x))]) (by kernel_rfl) rfl ent29 rfl ⟨by kernel_rfl, trivial⟩ rfl (fun a w st hk hxx => below_ok x (by first | assumption | exact inR_64 (by first | assumption | omega)) _) (fun _ _ _ _ hp => ⟨hp, fun b hb => by cases hb⟩),
        ob_w (Fi := [(3, .pointer (some ⟨b2, 0, none⟩))]) (by kernel_rfl) rfl rfl ⟨by kernel_rfl, trivial⟩ (fun a w st hk hxx => r_load st rfl rfl (run_loadW (st.at 2 rfl) u47 rfl s47 (Wd_size _))),
        ob_call (Fi := [(16, .agg (Wd y))]) (by kernel_rfl) rfl ent29 rfl ⟨by kernel_rfl, trivial⟩ rfl (fun a w st hk hxx => below_ok y (by first | assumption | exact inR_64 (by first | assumption | omega)) _) (fun _ _ _ _ hp => ⟨hp, fun b hb => by cases hb⟩),
        ob_run (Fi := [(15, .bool (decide (x < 0))), (17, .bool (decide (y < 0)))]) (by kernel_rfl) rfl rfl ⟨by kernel_rfl, by kernel_rfl, trivial⟩ (fun a w st hk hxx w' => (by rw [show (.bool false : Value) = .bool ((decide (x < 0)) == (decide (y < 0))) from (beq hs.symm)]; exact r_eqBool st rfl rfl rfl u4)),
        ob_p (Fi := [(18, .bool false)]) (by kernel_rfl) rfl rfl ⟨by kernel_rfl, trivial⟩ rfl rfl,
        ob_skip (c := false) (b := true) (by kernel_rfl) rfl rfl (by kernel_rfl) rfl,
        ob_skip (c := false) (b := true) (by kernel_rfl) rfl rfl (by kernel_rfl) rfl,
        ob_skip (c := false) (b := true) (by kernel_rfl) rfl rfl (by kernel_rfl) rfl,
        ob_skip (c := false) (b := true) (by kernel_rfl) rfl rfl (by kernel_rfl) rfl,
        ob_skip (c := false) (b := true) (by kernel_rfl) rfl rfl (by kernel_rfl) rfl,
        ob_p (Fi := [(19, .bool false), (24, undef)]) (by kernel_rfl) rfl rfl ⟨by kernel_rfl, by kernel_rfl, trivial⟩ rfl rfl, trivial⟩ ?_
    intro a1 w1 hk1 st1 he
    clear hk1 st a w; revert st1 he; revert a1; revert w1; intro w a st he
    replace st := st.pickTo (F' := [(0, .agg (Wd x)), (1, .agg (Wd y)), (2, .pointer (some ⟨b1, 0, none⟩)), (3, .pointer (some ⟨b2, 0, none⟩)), (4, .pointer (some ⟨b3, 0, none⟩)), (5, .bool false), (9, .agg (Wd x)), (10, .agg (Wd y)), (11, .tuple #[.agg (Wd (x + y + ((0 : Nat) : Int))), .int .u64 ((cr x y 0 16 : Nat) : Int)]), (8, .tuple #[.agg (Wd (x + y + ((0 : Nat) : Int))), .int .u64 ((cr x y 0 16 : Nat) : Int)]), (12, .agg (Wd (nrm (x + y)))), (13, .int .u64 ((cr x y 0 16 : Nat) : Int)), (6, .pointer (some ⟨b4, 0, none⟩)), (7, .int .u64 ((cr x y 0 16 : Nat) : Int)), (25, .bool false)]) [0, 1, 2, 3, 4, 5, 9, 10, 11, 8, 12, 13, 6, 7, 25] (by kernel_rfl)
    clear he
    change wpList _ _ _ [] _ _
    refine x_nil ?_
    show NP _ _ _ _
    refine NP.normal ?_
    refine x_condF st rfl ?_
    refine wp_skip ?_
    refine x_seq ?_
    refine x_region ?_
    refine x_run (v := .agg (Wd (nrm (x + y)))) st (r_load st rfl rfl (run_loadW (st.at 0 rfl) u47 rfl s47 (Wd_size _))) rfl rfl (by decide) ?_
    clear st a; intro a st
    refine x_store st 1 rfl rfl rfl rfl (run_storeW (st.at 1 rfl) (by first | exact s47 | simp only [s47, Wd_size]) (by first | rfl | simp only [Wd_size]) (AF_one _ _)) rfl rfl ?_
    clear st a w; intro a w st
    replace st := st.cast rfl (show _ = ([(b4, .cells (Wd (nrm (x + y))) 47 (0, 0)), (b3, .cells (Wd (nrm (x + y))) 47 (0, 0)), (b2, .cells (Wd y) 47 (0, 0)), (b1, .cells (Wd x) 47 (0, 0))] : Hp) from rfl)
    refine xseg 1 st rfl ?_
    clear st a; intro a st
    refine x_nil ?_
    refine x_wpret ?_
    exact x_retp st [.agg (Wd (nrm (x + y))), .bool true] rfl ⟨⟨_, rfl, run_loadW (st.at 1 rfl) u47 rfl s47 (Wd_size _)⟩, rfl, trivial⟩ rfl (add_yes hx hy (.inl hs))

set_option maxRecDepth 20000 in
set_option maxHeartbeats 1000000 in
theorem Sub_all  (x y : Int) (hx : inR x) (hy : inR y) (w0 : World) :
    Fn Tryd.prog 15 [.agg (Wd x), .agg (Wd y)] w0 [] (fun v _ => v = .tuple #[.agg (Wd (bif inRb (x - y) then x - y else 0)), .bool (inRb (x - y))]) := by
  refine x_enter' (n := 29) Tryd.func15 rfl rfl (Nat.le_of_ble_eq_true rfl) fun a w st => ?_
  refine x_seq ?_
  refine x_region ?_
  refine x_box st rfl rfl rfl rfl (by decide) ?_
  clear st a; intro a w b1 st
  refine x_box st rfl rfl rfl rfl (by decide) ?_
  clear st a; intro a w b2 st
  refine x_alloc st rfl z47 rfl rfl (by decide) ?_
  clear st a; intro a w b3 st
  replace st := st.cast rfl (show _ = ([(b3, .cells (Wd 0) 47 (0, 0)), (b2, .cells (Wd y) 47 (0, 0)), (b1, .cells (Wd x) 47 (0, 0))] : Hp) from rfl)
  refine xseg 1 st rfl ?_
  clear st a; intro a st
  refine x_nil ?_
  refine x_seq ?_
  refine x_draw st [] [.det (.agg (Wd x)), .det (.agg (Wd y)), .det (.agg (Wd (-y - 1))), .det (.tuple #[.agg (Wd (x + (-y - 1) + ((1 : Nat) : Int))), .int .u64 ((cr x (-y - 1) 1 16 : Nat) : Int)]), .det (.tuple #[.agg (Wd (x + (-y - 1) + ((1 : Nat) : Int))), .int .u64 ((cr x (-y - 1) 1 16 : Nat) : Int)]), .det (.agg (Wd (nrm (x - y)))), .det (.int .u64 ((cr x (-y - 1) 1 16 : Nat) : Int)), .spec (.new (.cells (.agg (#[.int .u64 0, .int .u64 0, .int .u64 0, .int .u64 0, .int .u64 0, .int .u64 0, .int .u64 0, .int .u64 0, .int .u64 0, .int .u64 0, .int .u64 0, .int .u64 0, .int .u64 0, .int .u64 0, .int .u64 0, .int .u64 0]) : Value).cells 47 (0, 0))), .det undef, .det undef] mixed (by kernel_rfl)
    ⟨ob_w (Fi := [(2, .pointer (some ⟨b1, 0, none⟩))]) (by kernel_rfl) rfl rfl ⟨by kernel_rfl, trivial⟩ (fun a w st hk hxx => r_load st rfl rfl (run_loadW (st.at 2 rfl) u47 rfl s47 (Wd_size _))),
      ob_w (Fi := [(3, .pointer (some ⟨b2, 0, none⟩))]) (by kernel_rfl) rfl rfl ⟨by kernel_rfl, trivial⟩ (fun a w st hk hxx => r_load st rfl rfl (run_loadW (st.at 1 rfl) u47 rfl s47 (Wd_size _))),
      ob_call (Fi := [(10, .agg (Wd y))]) (by kernel_rfl) rfl ent28 rfl ⟨by kernel_rfl, trivial⟩ rfl (fun a w st hk hxx => inverse_ok y _) (fun _ _ _ _ hp => ⟨hp, fun b hb => by cases hb⟩),
      ob_call (Fi := [(9, .agg (Wd x)), (11, .agg (Wd (-y - 1)))]) (by kernel_rfl) rfl ent27 rfl ⟨by kernel_rfl, by kernel_rfl, trivial⟩ rfl (fun a w st hk hxx => plus_ok x (-y - 1) 1 (by omega) _) (fun _ _ _ _ hp => ⟨hp, fun b hb => by cases hb⟩),
      ob_p (Fi := [(12, .tuple #[.agg (Wd (x + (-y - 1) + ((1 : Nat) : Int))), .int .u64 ((cr x (-y - 1) 1 16 : Nat) : Int)])]) (by kernel_rfl) rfl rfl ⟨by kernel_rfl, trivial⟩ rfl rfl,
      ob_p (Fi := [(8, .tuple #[.agg (Wd (x + (-y - 1) + ((1 : Nat) : Int))), .int .u64 ((cr x (-y - 1) 1 16 : Nat) : Int)])]) (by kernel_rfl) rfl rfl ⟨by kernel_rfl, trivial⟩ rfl (agg_wd (sub1 x y)),
      ob_p (Fi := [(8, .tuple #[.agg (Wd (x + (-y - 1) + ((1 : Nat) : Int))), .int .u64 ((cr x (-y - 1) 1 16 : Nat) : Int)])]) (by kernel_rfl) rfl rfl ⟨by kernel_rfl, trivial⟩ rfl rfl,
      ob_alloc (by kernel_rfl) rfl z47 rfl,
      ob_store (by kernel_rfl),
      ob_store (by kernel_rfl), trivial⟩ ?_
  intro a1 w1 hk1 st1 he
  clear hk1 st a w; revert st1 he; revert a1; revert w1; intro w a st he
  replace st := st.pickTo (F' := [(0, .agg (Wd x)), (1, .agg (Wd y)), (2, .pointer (some ⟨b1, 0, none⟩)), (3, .pointer (some ⟨b2, 0, none⟩)), (4, .pointer (some ⟨b3, 0, none⟩)), (5, .bool false), (13, .agg (Wd (nrm (x - y)))), (14, .int .u64 ((cr x (-y - 1) 1 16 : Nat) : Int))]) [0, 1, 2, 3, 4, 5, 13, 14] (by kernel_rfl)
  obtain ⟨b4, heb4, hbb4, hnb4⟩ := he.new 7 rfl rfl
  replace st := (st.know heb4).add hbb4 hnb4
  replace st := st.cast rfl (show _ = ([(b4, .cells (Wd 0) 47 (0, 0)), (b3, .cells (Wd 0) 47 (0, 0)), (b2, .cells (Wd y) 47 (0, 0)), (b1, .cells (Wd x) 47 (0, 0))] : Hp) from rfl)
  clear heb4 hbb4 hnb4 he
  change wpList _ _ _ [_, _] _ _
  refine x_store st 0 rfl rfl rfl rfl (run_storeW (st.at 0 rfl) (by first | exact s47 | simp only [s47, Wd_size]) (by first | rfl | simp only [Wd_size]) (AF_one _ _)) rfl rfl ?_
  clear st a w; intro a w st
  replace st := st.cast rfl (show _ = ([(b4, .cells (Wd (nrm (x - y))) 47 (0, 0)), (b3, .cells (Wd 0) 47 (0, 0)), (b2, .cells (Wd y) 47 (0, 0)), (b1, .cells (Wd x) 47 (0, 0))] : Hp) from rfl)
  refine xseg 1 st rfl ?_
  clear st a; intro a st
  refine x_nil ?_
  show NP _ _ _ _
  refine NP.normal ?_
  refine x_seq ?_
  refine x_seq ?_
  rcases Bool.eq_false_or_eq_true (decide (x < 0) != decide (y < 0)) with hs | hs
  · have hin := nrm_in (x - y)
    refine x_draw st [] [.det (.agg (Wd x)), .det (.bool (decide (x < 0))), .det (.agg (Wd y)), .det (.bool (decide (y < 0))), .det (.bool true), .det (.bool true), .det (.agg (Wd (nrm (x - y)))), .det (.bool (decide ((nrm (x - y)) < 0))), .det (.agg (Wd x)), .det (.bool (decide (x < 0))), .det (.bool ((decide ((nrm (x - y)) < 0)) != (decide (x < 0)))), .det (.bool ((decide ((nrm (x - y)) < 0)) != (decide (x < 0))))] mixed (by kernel_rfl)
      ⟨ob_w (Fi := [(2, .pointer (some ⟨b1, 0, none⟩))]) (by kernel_rfl) rfl rfl ⟨by kernel_rfl, trivial⟩ (fun a w st hk hxx => r_load st rfl rfl (run_loadW (st.at 3 rfl) u47 rfl s47 (Wd_size _))),
        ob_call (Fi := [(15, .agg (Wd x))]) (by kernel_rfl) rfl ent29 rfl ⟨by kernel_rfl, trivial⟩ rfl (fun a w st hk hxx => below_ok x (by first | assumption | exact inR_64 (by first | assumption | omega)) _) (fun _ _ _ _ hp => ⟨hp, fun b hb => by cases hb⟩),
        ob_w (Fi := [(3, .pointer (some ⟨b2, 0, none⟩))]) (by kernel_rfl) rfl rfl ⟨by kernel_rfl, trivial⟩ (fun a w st hk hxx => r_load st rfl rfl (run_loadW (st.at 2 rfl) u47 rfl s47 (Wd_size _))),
        ob_call (Fi := [(17, .agg (Wd y))]) (by kernel_rfl) rfl ent29 rfl ⟨by kernel_rfl, trivial⟩ rfl (fun a w st hk hxx => below_ok y (by first | assumption | exact inR_64 (by first | assumption | omega)) _) (fun _ _ _ _ hp => ⟨hp, fun b hb => by cases hb⟩),
        ob_run (Fi := [(16, .bool (decide (x < 0))), (18, .bool (decide (y < 0)))]) (by kernel_rfl) rfl rfl ⟨by kernel_rfl, by kernel_rfl, trivial⟩ (fun a w st hk hxx w' => (by rw [show (.bool true : Value) = .bool ((decide (x < 0)) != (decide (y < 0))) from (beq hs.symm)]; exact r_neqBool st rfl rfl rfl u4)),
        ob_p (Fi := [(19, .bool true)]) (by kernel_rfl) rfl rfl ⟨by kernel_rfl, trivial⟩ rfl rfl,
        ob_guard (u := .agg (Wd (nrm (x - y)))) (c := true) (b := true) (by kernel_rfl) rfl rfl (by kernel_rfl) (by first | rfl | simp) (ob_w (Fi := [(6, .pointer (some ⟨b4, 0, none⟩))]) (by kernel_rfl) rfl rfl ⟨by kernel_rfl, trivial⟩ (fun a w st hk hxx => r_load st rfl rfl (run_loadW (st.at 0 rfl) u47 rfl s47 (Wd_size _)))),
        ob_guard (u := .bool (decide ((nrm (x - y)) < 0))) (c := true) (b := true) (by kernel_rfl) rfl rfl (by kernel_rfl) (by first | rfl | simp) (ob_call (Fi := [(21, .agg (Wd (nrm (x - y))))]) (by kernel_rfl) rfl ent29 rfl ⟨by kernel_rfl, trivial⟩ rfl (fun a w st hk hxx => below_ok (nrm (x - y)) (by first | assumption | exact inR_64 (by first | assumption | omega)) _) (fun _ _ _ _ hp => ⟨hp, fun b hb => by cases hb⟩)),
        ob_guard (u := .agg (Wd x)) (c := true) (b := true) (by kernel_rfl) rfl rfl (by kernel_rfl) (by first | rfl | simp) (ob_w (Fi := [(2, .pointer (some ⟨b1, 0, none⟩))]) (by kernel_rfl) rfl rfl ⟨by kernel_rfl, trivial⟩ (fun a w st hk hxx => r_load st rfl rfl (run_loadW (st.at 3 rfl) u47 rfl s47 (Wd_size _)))),
        ob_guard (u := .bool (decide (x < 0))) (c := true) (b := true) (by kernel_rfl) rfl rfl (by kernel_rfl) (by first | rfl | simp) (ob_call (Fi := [(23, .agg (Wd x))]) (by kernel_rfl) rfl ent29 rfl ⟨by kernel_rfl, trivial⟩ rfl (fun a w st hk hxx => below_ok x (by first | assumption | exact inR_64 (by first | assumption | omega)) _) (fun _ _ _ _ hp => ⟨hp, fun b hb => by cases hb⟩)),
        ob_guard (u := .bool ((decide ((nrm (x - y)) < 0)) != (decide (x < 0)))) (c := true) (b := true) (by kernel_rfl) rfl rfl (by kernel_rfl) (by first | rfl | simp) (ob_run (Fi := [(22, .bool (decide ((nrm (x - y)) < 0))), (24, .bool (decide (x < 0)))]) (by kernel_rfl) rfl rfl ⟨by kernel_rfl, by kernel_rfl, trivial⟩ (fun a w st hk hxx w' => r_neqBool st rfl rfl rfl u4)),
        ob_p (Fi := [(20, .bool true), (25, .bool ((decide ((nrm (x - y)) < 0)) != (decide (x < 0))))]) (by kernel_rfl) rfl rfl ⟨by kernel_rfl, by kernel_rfl, trivial⟩ rfl rfl, trivial⟩ ?_
    intro a1 w1 hk1 st1 he
    clear hk1 st a w; revert st1 he; revert a1; revert w1; intro w a st he
    replace st := st.pickTo (F' := [(0, .agg (Wd x)), (1, .agg (Wd y)), (2, .pointer (some ⟨b1, 0, none⟩)), (3, .pointer (some ⟨b2, 0, none⟩)), (4, .pointer (some ⟨b3, 0, none⟩)), (5, .bool false), (13, .agg (Wd (nrm (x - y)))), (14, .int .u64 ((cr x (-y - 1) 1 16 : Nat) : Int)), (6, .pointer (some ⟨b4, 0, none⟩)), (7, .int .u64 ((cr x (-y - 1) 1 16 : Nat) : Int)), (26, .bool ((decide ((nrm (x - y)) < 0)) != (decide (x < 0))))]) [0, 1, 2, 3, 4, 5, 13, 14, 6, 7, 26] (by kernel_rfl)
    clear he
    change wpList _ _ _ [] _ _
    refine x_nil ?_
    show NP _ _ _ _
    refine NP.normal ?_
    refine x_cond st rfl (fun h2 => ?_) (fun h2 => ?_)
    · refine x_seq ?_
      refine x_region ?_
      refine x_run (v := .agg (Wd 0)) st (r_build0 bz47 rfl) rfl rfl (by decide) ?_
      clear st a; intro a st
      refine x_store st 1 rfl rfl rfl rfl (run_storeW (st.at 1 rfl) (by first | exact s47 | simp only [s47, Wd_size]) (by first | rfl | simp only [Wd_size]) (AF_one _ _)) rfl rfl ?_
      clear st a w; intro a w st
      replace st := st.cast rfl (show _ = ([(b4, .cells (Wd (nrm (x - y))) 47 (0, 0)), (b3, .cells (Wd 0) 47 (0, 0)), (b2, .cells (Wd y) 47 (0, 0)), (b1, .cells (Wd x) 47 (0, 0))] : Hp) from rfl)
      refine xseg 1 st rfl ?_
      clear st a; intro a st
      refine x_nil ?_
      refine x_wpret ?_
      refine x_thenRet ?_
      exact x_retp st [.agg (Wd 0), .bool false] rfl ⟨⟨_, rfl, run_loadW (st.at 1 rfl) u47 rfl s47 (Wd_size _)⟩, rfl, trivial⟩ rfl (sub_no hx hy hs h2)
    · refine wp_skip ?_
      refine x_seq ?_
      refine x_region ?_
      refine x_run (v := .agg (Wd (nrm (x - y)))) st (r_load st rfl rfl (run_loadW (st.at 0 rfl) u47 rfl s47 (Wd_size _))) rfl rfl (by decide) ?_
      clear st a; intro a st
      refine x_store st 1 rfl rfl rfl rfl (run_storeW (st.at 1 rfl) (by first | exact s47 | simp only [s47, Wd_size]) (by first | rfl | simp only [Wd_size]) (AF_one _ _)) rfl rfl ?_
      clear st a w; intro a w st
      replace st := st.cast rfl (show _ = ([(b4, .cells (Wd (nrm (x - y))) 47 (0, 0)), (b3, .cells (Wd (nrm (x - y))) 47 (0, 0)), (b2, .cells (Wd y) 47 (0, 0)), (b1, .cells (Wd x) 47 (0, 0))] : Hp) from rfl)
      refine xseg 1 st rfl ?_
      clear st a; intro a st
      refine x_nil ?_
      refine x_wpret ?_
      exact x_retp st [.agg (Wd (nrm (x - y))), .bool true] rfl ⟨⟨_, rfl, run_loadW (st.at 1 rfl) u47 rfl s47 (Wd_size _)⟩, rfl, trivial⟩ rfl (sub_yes hx hy (.inr h2))
  · have hin := nrm_in (x - y)
    refine x_draw st [] [.det (.agg (Wd x)), .det (.bool (decide (x < 0))), .det (.agg (Wd y)), .det (.bool (decide (y < 0))), .det (.bool false), .det (.bool false), .det undef, .det undef, .det undef, .det undef, .det undef, .det (.bool false)] mixed (by kernel_rfl)
      ⟨ob_w (Fi := [(2, .pointer (some ⟨b1, 0, none⟩))]) (by kernel_rfl) rfl rfl ⟨by kernel_rfl, trivial⟩ (fun a w st hk hxx => r_load st rfl rfl (run_loadW (st.at 3 rfl) u47 rfl s47 (Wd_size _))),
        ob_call (Fi := [(15, .agg (Wd x))]) (by kernel_rfl) rfl ent29 rfl ⟨by kernel_rfl, trivial⟩ rfl (fun a w st hk hxx => below_ok x (by first | assumption | exact inR_64 (by first | assumption | omega)) _) (fun _ _ _ _ hp => ⟨hp, fun b hb => by cases hb⟩),
        ob_w (Fi := [(3, .pointer (some ⟨b2, 0, none⟩))]) (by kernel_rfl) rfl rfl ⟨by kernel_rfl, trivial⟩ (fun a w st hk hxx => r_load st rfl rfl (run_loadW (st.at 2 rfl) u47 rfl s47 (Wd_size _))),
        ob_call (Fi := [(17, .agg (Wd y))]) (by kernel_rfl) rfl ent29 rfl ⟨by kernel_rfl, trivial⟩ rfl (fun a w st hk hxx => below_ok y (by first | assumption | exact inR_64 (by first | assumption | omega)) _) (fun _ _ _ _ hp => ⟨hp, fun b hb => by cases hb⟩),
        ob_run (Fi := [(16, .bool (decide (x < 0))), (18, .bool (decide (y < 0)))]) (by kernel_rfl) rfl rfl ⟨by kernel_rfl, by kernel_rfl, trivial⟩ (fun a w st hk hxx w' => (by rw [show (.bool false : Value) = .bool ((decide (x < 0)) != (decide (y < 0))) from (beq hs.symm)]; exact r_neqBool st rfl rfl rfl u4)),
        ob_p (Fi := [(19, .bool false)]) (by kernel_rfl) rfl rfl ⟨by kernel_rfl, trivial⟩ rfl rfl,
        ob_skip (c := false) (b := true) (by kernel_rfl) rfl rfl (by kernel_rfl) rfl,
        ob_skip (c := false) (b := true) (by kernel_rfl) rfl rfl (by kernel_rfl) rfl,
        ob_skip (c := false) (b := true) (by kernel_rfl) rfl rfl (by kernel_rfl) rfl,
        ob_skip (c := false) (b := true) (by kernel_rfl) rfl rfl (by kernel_rfl) rfl,
        ob_skip (c := false) (b := true) (by kernel_rfl) rfl rfl (by kernel_rfl) rfl,
        ob_p (Fi := [(20, .bool false), (25, undef)]) (by kernel_rfl) rfl rfl ⟨by kernel_rfl, by kernel_rfl, trivial⟩ rfl rfl, trivial⟩ ?_
    intro a1 w1 hk1 st1 he
    clear hk1 st a w; revert st1 he; revert a1; revert w1; intro w a st he
    replace st := st.pickTo (F' := [(0, .agg (Wd x)), (1, .agg (Wd y)), (2, .pointer (some ⟨b1, 0, none⟩)), (3, .pointer (some ⟨b2, 0, none⟩)), (4, .pointer (some ⟨b3, 0, none⟩)), (5, .bool false), (13, .agg (Wd (nrm (x - y)))), (14, .int .u64 ((cr x (-y - 1) 1 16 : Nat) : Int)), (6, .pointer (some ⟨b4, 0, none⟩)), (7, .int .u64 ((cr x (-y - 1) 1 16 : Nat) : Int)), (26, .bool false)]) [0, 1, 2, 3, 4, 5, 13, 14, 6, 7, 26] (by kernel_rfl)
    clear he
    change wpList _ _ _ [] _ _
    refine x_nil ?_
    show NP _ _ _ _
    refine NP.normal ?_
    refine x_condF st rfl ?_
    refine wp_skip ?_
    refine x_seq ?_
    refine x_region ?_
    refine x_run (v := .agg (Wd (nrm (x - y)))) st (r_load st rfl rfl (run_loadW (st.at 0 rfl) u47 rfl s47 (Wd_size _))) rfl rfl (by decide) ?_
    clear st a; intro a st
    refine x_store st 1 rfl rfl rfl rfl (run_storeW (st.at 1 rfl) (by first | exact s47 | simp only [s47, Wd_size]) (by first | rfl | simp only [Wd_size]) (AF_one _ _)) rfl rfl ?_
    clear st a w; intro a w st
    replace st := st.cast rfl (show _ = ([(b4, .cells (Wd (nrm (x - y))) 47 (0, 0)), (b3, .cells (Wd (nrm (x - y))) 47 (0, 0)), (b2, .cells (Wd y) 47 (0, 0)), (b1, .cells (Wd x) 47 (0, 0))] : Hp) from rfl)
    refine xseg 1 st rfl ?_
    clear st a; intro a st
    refine x_nil ?_
    refine x_wpret ?_
    exact x_retp st [.agg (Wd (nrm (x - y))), .bool true] rfl ⟨⟨_, rfl, run_loadW (st.at 1 rfl) u47 rfl s47 (Wd_size _)⟩, rfl, trivial⟩ rfl (sub_yes hx hy (.inl hs))

theorem Add_ok (x y : Int) (hx : inR x) (hy : inR y) (h : inR (x + y)) (w0 : World) : Fn Tryd.prog 44 [.agg (Wd x), .agg (Wd y)] w0 [] (fun v _ => v = .tuple #[.agg (Wd (x + y)), .bool true]) :=
  (Add_all x y hx hy w0).mono fun v w' _ h1 => by rw [h1, inRb_true h]; rfl
theorem Sub_ok (x y : Int) (hx : inR x) (hy : inR y) (h : inR (x - y)) (w0 : World) : Fn Tryd.prog 15 [.agg (Wd x), .agg (Wd y)] w0 [] (fun v _ => v = .tuple #[.agg (Wd (x - y)), .bool true]) :=
  (Sub_all x y hx hy w0).mono fun v w' _ h1 => by rw [h1, inRb_true h]; rfl

end Go.Proofs.YtnkbhmonceiocaaDoor
