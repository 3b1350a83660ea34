/-
  The package wide of the program: Div, Round.
-/
import Derived.Test.YtnkbhmonceiocaaDoorWideJ
import Derived.Test.YtnkbhmonceiocaaDoorQuoP
namespace Go.Proofs.YtnkbhmonceiocaaDoor
open Go Go.RowKit
namespace FWideK
theorem bz47 (w : World) : (Instr.build 47 #[]).run Tryd.prog w = .ok (.agg (Wd 0)) w := by kernel_rfl
theorem ent15 (args : Array Value) (w : World) : (callFunc 15 args).run Tryd.prog w = .ok (.enter 15 args) w := enters_at Tryd.func15 (by kernel_rfl) rfl args w
theorem ent17 (args : Array Value) (w : World) : (callFunc 17 args).run Tryd.prog w = .ok (.enter 17 args) w := enters_at Tryd.func17 (by kernel_rfl) rfl args w
theorem ent29 (args : Array Value) (w : World) : (callFunc 29 args).run Tryd.prog w = .ok (.enter 29 args) w := enters_at Tryd.func29 (by kernel_rfl) rfl args w
theorem ent31 (args : Array Value) (w : World) : (callFunc 31 args).run Tryd.prog w = .ok (.enter 31 args) w := enters_at Tryd.func31 (by kernel_rfl) rfl args w
theorem ent41 (args : Array Value) (w : World) : (callFunc 41 args).run Tryd.prog w = .ok (.enter 41 args) w := enters_at Tryd.func41 (by kernel_rfl) rfl args w
theorem ent43 (args : Array Value) (w : World) : (callFunc 43 args).run Tryd.prog w = .ok (.enter 43 args) w := enters_at Tryd.func43 (by kernel_rfl) rfl args w
theorem ent44 (args : Array Value) (w : World) : (callFunc 44 args).run Tryd.prog w = .ok (.enter 44 args) w := enters_at Tryd.func44 (by kernel_rfl) rfl args w
theorem ent56 (args : Array Value) (w : World) : (callFunc 56 args).run Tryd.prog w = .ok (.enter 56 args) w := enters_at Tryd.func56 (by kernel_rfl) rfl args w
theorem ent57 (args : Array Value) (w : World) : (callFunc 57 args).run Tryd.prog w = .ok (.enter 57 args) w := enters_at Tryd.func57 (by kernel_rfl) rfl args w
theorem ent62 (args : Array Value) (w : World) : (callFunc 62 args).run Tryd.prog w = .ok (.enter 62 args) w := enters_at Tryd.func62 (by kernel_rfl) rfl args w
theorem mixed : Tryd.prog.follows .mixedOrders = true := by kernel_rfl
theorem q47 : Tryd.prog.eqGuardType Tryd.prog.depth 47 = false := by kernel_rfl
theorem s45 : (Tryd.prog.info? 45).map (·.size) = some 1 := by kernel_rfl
theorem s47 : (Tryd.prog.info? 47).map (·.size) = some 16 := by kernel_rfl
theorem u4 : Tryd.prog.underlying 4 = some (.bool) := by kernel_rfl
theorem u45 : Tryd.prog.underlying 45 = some (.int .u64) := by kernel_rfl
theorem u47 : Tryd.prog.underlying 47 = some (.array 16 45) := by kernel_rfl
theorem z47 : (Tryd.prog.info? 47).bind (·.zero) = some (.agg (#[.int .u64 0, .int .u64 0, .int .u64 0, .int .u64 0, .int .u64 0, .int .u64 0, .int .u64 0, .int .u64 0, .int .u64 0, .int .u64 0, .int .u64 0, .int .u64 0, .int .u64 0, .int .u64 0, .int .u64 0, .int .u64 0])) := by kernel_rfl
end FWideK
open FWideK
theorem signed_q (x y : Int) (h : x.natAbs < BB ^ 16) (w0 : World) : Fn Tryd.prog 43 [.agg (Wd ((x.natAbs / y.natAbs : Nat) : Int)), .bool (decide (x < 0) != decide (y < 0))] w0 [] (fun v _ => v = .tuple #[.agg (Wd (x.tdiv y)), .bool (inRb (x.tdiv y))]) := by
  have h := signed_ok (x.natAbs / y.natAbs) (Nat.lt_of_le_of_lt (Nat.div_le_self _ _) h) (decide (x < 0) != decide (y < 0)) w0
  rw [tdiv_sign] at h
  exact h

set_option maxRecDepth 20000 in
set_option maxHeartbeats 1000000 in
theorem Div_all  (x y : Int) (hx : inR x) (hy : inR y) (h0 : y ≠ 0) (w0 : World) :
    Fn Tryd.prog 57 [.agg (Wd x), .agg (Wd y)] w0 [] (fun v _ => v = .tuple #[.agg (Wd (bif inRb (x.tdiv y) then x.tdiv y else 0)), .agg (Wd (bif inRb (x.tdiv y) then x.tmod y else 0)), .bool (inRb (x.tdiv y))]) := by
  have hxB := natAbs_lt hx
  have hyB := natAbs_lt hy
  have hy0 := natAbs_pos' h0
  refine x_enter' (n := 44) Tryd.func57 rfl rfl (Nat.le_of_ble_eq_true rfl) fun a w st => ?_
  refine x_seq ?_
  refine x_region ?_
  refine x_box st rfl rfl rfl rfl (by decide) ?_
  clear st a; intro a w b1 st
  refine x_box st rfl rfl rfl rfl (by decide) ?_
  clear st a; intro a w b2 st
  refine x_alloc st rfl z47 rfl rfl (by decide) ?_
  clear st a; intro a w b3 st
  replace st := st.cast rfl (show _ = ([(b3, .cells (Wd 0) 47 (0, 0)), (b2, .cells (Wd y) 47 (0, 0)), (b1, .cells (Wd x) 47 (0, 0))] : Hp) from rfl)
  refine x_alloc st rfl z47 rfl rfl (by decide) ?_
  clear st a; intro a w b4 st
  replace st := st.cast rfl (show _ = ([(b4, .cells (Wd 0) 47 (0, 0)), (b3, .cells (Wd 0) 47 (0, 0)), (b2, .cells (Wd y) 47 (0, 0)), (b1, .cells (Wd x) 47 (0, 0))] : Hp) from rfl)
  refine xseg 1 st rfl ?_
  clear st a; intro a st
  refine x_nil ?_
  refine x_seq ?_
  refine x_seq ?_
  refine x_region ?_
  refine x_run (v := .agg (Wd y)) st (r_load st rfl rfl (run_loadW (st.at 2 rfl) u47 rfl s47 (Wd_size _))) rfl rfl (by decide) ?_
  clear st a; intro a st
  refine x_run (v := .agg (Wd 0)) st (r_build0 bz47 rfl) rfl rfl (by decide) ?_
  clear st a; intro a st
  refine x_run (v := .bool (decide (y = 0))) st ((by rw [show (.bool (decide (y = 0)) : Value) = .bool (eqRow 16 (limb y) (limb 0)) from (beq (eqRow_Wd hy (inR_64 (by omega))).symm)]; exact r_eqRow (neq := false) (g := limb y) (h := limb 0) st rfl rfl rfl u47 u45 s45 q47)) rfl rfl (by decide) ?_
  clear st a; intro a st
  refine x_nil ?_
  refine x_condD st rfl (fun h1 => ?_) (fun h1 => ?_)
  · exact absurd h1 h0
  · refine wp_skip ?_
    refine x_seq ?_
    refine x_draw st [] [.det (.agg (Wd x)), .det (.agg (Wd (x.natAbs : Int))), .det (.agg (Wd y)), .det (.agg (Wd (y.natAbs : Int))), .det (.tuple #[.agg (Wd ((x.natAbs / y.natAbs : Nat) : Int)), .agg (Wd ((x.natAbs % y.natAbs : Nat) : Int))]), .det (.tuple #[.agg (Wd ((x.natAbs / y.natAbs : Nat) : Int)), .agg (Wd ((x.natAbs % y.natAbs : Nat) : Int))]), .det (.agg (Wd ((x.natAbs / y.natAbs : Nat) : Int))), .det (.agg (Wd ((x.natAbs % y.natAbs : Nat) : Int))), .spec (.new (.cells (.agg (#[.int .u64 0, .int .u64 0, .int .u64 0, .int .u64 0, .int .u64 0, .int .u64 0, .int .u64 0, .int .u64 0, .int .u64 0, .int .u64 0, .int .u64 0, .int .u64 0, .int .u64 0, .int .u64 0, .int .u64 0, .int .u64 0]) : Value).cells 47 (0, 0))), .spec (.new (.cells (.agg (#[.int .u64 0, .int .u64 0, .int .u64 0, .int .u64 0, .int .u64 0, .int .u64 0, .int .u64 0, .int .u64 0, .int .u64 0, .int .u64 0, .int .u64 0, .int .u64 0, .int .u64 0, .int .u64 0, .int .u64 0, .int .u64 0]) : Value).cells 47 (0, 0))), .det undef, .det undef] mixed (by kernel_rfl)
      ⟨ob_w (Fi := [(2, .pointer (some ⟨b1, 0, none⟩))]) (by kernel_rfl) rfl rfl ⟨by kernel_rfl, trivial⟩ (fun a w st hk hxx => r_load st rfl rfl (run_loadW (st.at 3 rfl) u47 rfl s47 (Wd_size _))),
        ob_call (Fi := [(17, .agg (Wd x))]) (by kernel_rfl) rfl ent41 rfl ⟨by kernel_rfl, trivial⟩ rfl (fun a w st hk hxx => amount_ok x (by first | assumption | exact inR_64 (by first | assumption | omega)) _) (fun _ _ _ _ hp => ⟨hp, fun b hb => by cases hb⟩),
        ob_w (Fi := [(3, .pointer (some ⟨b2, 0, none⟩))]) (by kernel_rfl) rfl rfl ⟨by kernel_rfl, trivial⟩ (fun a w st hk hxx => r_load st rfl rfl (run_loadW (st.at 2 rfl) u47 rfl s47 (Wd_size _))),
        ob_call (Fi := [(19, .agg (Wd y))]) (by kernel_rfl) rfl ent41 rfl ⟨by kernel_rfl, trivial⟩ rfl (fun a w st hk hxx => amount_ok y (by first | assumption | exact inR_64 (by first | assumption | omega)) _) (fun _ _ _ _ hp => ⟨hp, fun b hb => by cases hb⟩),
        ob_call (Fi := [(18, .agg (Wd (x.natAbs : Int))), (20, .agg (Wd (y.natAbs : Int)))]) (by kernel_rfl) rfl ent62 rfl ⟨by kernel_rfl, by kernel_rfl, trivial⟩ rfl (fun a w st hk hxx => (divide_ok x.natAbs y.natAbs hxB hyB hy0 _)) (fun _ _ _ _ hp => ⟨hp, fun b hb => by cases hb⟩),
        ob_p (Fi := [(21, .tuple #[.agg (Wd ((x.natAbs / y.natAbs : Nat) : Int)), .agg (Wd ((x.natAbs % y.natAbs : Nat) : Int))])]) (by kernel_rfl) rfl rfl ⟨by kernel_rfl, trivial⟩ rfl rfl,
        ob_p (Fi := [(16, .tuple #[.agg (Wd ((x.natAbs / y.natAbs : Nat) : Int)), .agg (Wd ((x.natAbs % y.natAbs : Nat) : Int))])]) (by kernel_rfl) rfl rfl ⟨by kernel_rfl, trivial⟩ rfl rfl,
        ob_p (Fi := [(16, .tuple #[.agg (Wd ((x.natAbs / y.natAbs : Nat) : Int)), .agg (Wd ((x.natAbs % y.natAbs : Nat) : Int))])]) (by kernel_rfl) rfl rfl ⟨by kernel_rfl, trivial⟩ rfl rfl,
        ob_alloc (by kernel_rfl) rfl z47 rfl,
        ob_alloc (by kernel_rfl) rfl z47 rfl,
        ob_store (by kernel_rfl),
        ob_store (by kernel_rfl), trivial⟩ ?_
    intro a1 w1 hk1 st1 he
    clear hk1 st a w; revert st1 he; revert a1; revert w1; intro w a st he
    replace st := st.pickTo (F' := [(0, .agg (Wd x)), (1, .agg (Wd y)), (2, .pointer (some ⟨b1, 0, none⟩)), (3, .pointer (some ⟨b2, 0, none⟩)), (4, .pointer (some ⟨b3, 0, none⟩)), (5, .pointer (some ⟨b4, 0, none⟩)), (6, .bool false), (11, .agg (Wd y)), (12, .agg (Wd 0)), (13, .bool (decide (y = 0))), (22, .agg (Wd ((x.natAbs / y.natAbs : Nat) : Int))), (23, .agg (Wd ((x.natAbs % y.natAbs : Nat) : Int)))]) [0, 1, 2, 3, 4, 5, 6, 11, 12, 13, 22, 23] (by kernel_rfl)
    obtain ⟨b5, heb5, hbb5, hnb5⟩ := he.new 8 rfl rfl
    obtain ⟨b6, heb6, hbb6, hnb6⟩ := he.new 9 rfl rfl
    replace st := (st.know heb5).add hbb5 hnb5
    replace st := (st.know heb6).add hbb6 ⟨List.not_mem_cons_of_ne_of_not_mem (he.ptr_ne 8 9 (by decide) rfl rfl rfl rfl rfl rfl heb5 heb6) ( hnb6.1), hnb6.2⟩
    replace st := st.cast rfl (show _ = ([(b6, .cells (Wd 0) 47 (0, 0)), (b5, .cells (Wd 0) 47 (0, 0)), (b4, .cells (Wd 0) 47 (0, 0)), (b3, .cells (Wd 0) 47 (0, 0)), (b2, .cells (Wd y) 47 (0, 0)), (b1, .cells (Wd x) 47 (0, 0))] : Hp) from rfl)
    clear heb5 hbb5 hnb5 heb6 hbb6 hnb6 he
    change wpList _ _ _ [_, _] _ _
    refine x_store st 1 rfl rfl rfl rfl (run_storeW (st.at 1 rfl) (by first | exact s47 | simp only [s47, Wd_size]) (by first | rfl | simp only [Wd_size]) (AF_one _ _)) rfl rfl ?_
    clear st a w; intro a w st
    replace st := st.cast rfl (show _ = ([(b6, .cells (Wd 0) 47 (0, 0)), (b5, .cells (Wd ((x.natAbs / y.natAbs : Nat) : Int)) 47 (0, 0)), (b4, .cells (Wd 0) 47 (0, 0)), (b3, .cells (Wd 0) 47 (0, 0)), (b2, .cells (Wd y) 47 (0, 0)), (b1, .cells (Wd x) 47 (0, 0))] : Hp) from rfl)
    refine x_store st 0 rfl rfl rfl rfl (run_storeW (st.at 0 rfl) (by first | exact s47 | simp only [s47, Wd_size]) (by first | rfl | simp only [Wd_size]) (AF_one _ _)) rfl rfl ?_
    clear st a w; intro a w st
    replace st := st.cast rfl (show _ = ([(b6, .cells (Wd ((x.natAbs % y.natAbs : Nat) : Int)) 47 (0, 0)), (b5, .cells (Wd ((x.natAbs / y.natAbs : Nat) : Int)) 47 (0, 0)), (b4, .cells (Wd 0) 47 (0, 0)), (b3, .cells (Wd 0) 47 (0, 0)), (b2, .cells (Wd y) 47 (0, 0)), (b1, .cells (Wd x) 47 (0, 0))] : Hp) from rfl)
    refine x_nil ?_
    show NP _ _ _ _
    refine NP.normal ?_
    refine x_seq ?_
    refine x_draw st [] [.det (.agg (Wd ((x.natAbs / y.natAbs : Nat) : Int))), .det (.agg (Wd x)), .det (.bool (decide (x < 0))), .det (.agg (Wd y)), .det (.bool (decide (y < 0))), .det (.bool ((decide (x < 0)) != (decide (y < 0)))), .det (.tuple #[.agg (Wd (x.tdiv y)), .bool (inRb (x.tdiv y))]), .det (.tuple #[.agg (Wd (x.tdiv y)), .bool (inRb (x.tdiv y))]), .det (.agg (Wd (x.tdiv y))), .det (.bool (inRb (x.tdiv y))), .spec (.new (.cells (.agg (#[.int .u64 0, .int .u64 0, .int .u64 0, .int .u64 0, .int .u64 0, .int .u64 0, .int .u64 0, .int .u64 0, .int .u64 0, .int .u64 0, .int .u64 0, .int .u64 0, .int .u64 0, .int .u64 0, .int .u64 0, .int .u64 0]) : Value).cells 47 (0, 0))), .det undef, .det undef] mixed (by kernel_rfl)
      ⟨ob_w (Fi := [(7, .pointer (some ⟨b5, 0, none⟩))]) (by kernel_rfl) rfl rfl ⟨by kernel_rfl, trivial⟩ (fun a w st hk hxx => r_load st rfl rfl (run_loadW (st.at 1 rfl) u47 rfl s47 (Wd_size _))),
        ob_w (Fi := [(2, .pointer (some ⟨b1, 0, none⟩))]) (by kernel_rfl) rfl rfl ⟨by kernel_rfl, trivial⟩ (fun a w st hk hxx => r_load st rfl rfl (run_loadW (st.at 5 rfl) u47 rfl s47 (Wd_size _))),
        ob_call (Fi := [(26, .agg (Wd x))]) (by kernel_rfl) rfl ent29 rfl ⟨by kernel_rfl, trivial⟩ rfl (fun a w st hk hxx => below_ok x (by first | assumption | exact inR_64 (by first | assumption | omega)) _) (fun _ _ _ _ hp => ⟨hp, fun b hb => by cases hb⟩),
        ob_w (Fi := [(3, .pointer (some ⟨b2, 0, none⟩))]) (by kernel_rfl) rfl rfl ⟨by kernel_rfl, trivial⟩ (fun a w st hk hxx => r_load st rfl rfl (run_loadW (st.at 4 rfl) u47 rfl s47 (Wd_size _))),
        ob_call (Fi := [(28, .agg (Wd y))]) (by kernel_rfl) rfl ent29 rfl ⟨by kernel_rfl, trivial⟩ rfl (fun a w st hk hxx => below_ok y (by first | assumption | exact inR_64 (by first | assumption | omega)) _) (fun _ _ _ _ hp => ⟨hp, fun b hb => by cases hb⟩),
        ob_run (Fi := [(27, .bool (decide (x < 0))), (29, .bool (decide (y < 0)))]) (by kernel_rfl) rfl rfl ⟨by kernel_rfl, by kernel_rfl, trivial⟩ (fun a w st hk hxx w' => r_neqBool st rfl rfl rfl u4),
        ob_call (Fi := [(25, .agg (Wd ((x.natAbs / y.natAbs : Nat) : Int))), (30, .bool ((decide (x < 0)) != (decide (y < 0))))]) (by kernel_rfl) rfl ent43 rfl ⟨by kernel_rfl, by kernel_rfl, trivial⟩ rfl (fun a w st hk hxx => (signed_q x y hxB _)) (fun _ _ _ _ hp => ⟨hp, fun b hb => by cases hb⟩),
        ob_p (Fi := [(31, .tuple #[.agg (Wd (x.tdiv y)), .bool (inRb (x.tdiv y))])]) (by kernel_rfl) rfl rfl ⟨by kernel_rfl, trivial⟩ rfl rfl,
        ob_p (Fi := [(24, .tuple #[.agg (Wd (x.tdiv y)), .bool (inRb (x.tdiv y))])]) (by kernel_rfl) rfl rfl ⟨by kernel_rfl, trivial⟩ rfl rfl,
        ob_p (Fi := [(24, .tuple #[.agg (Wd (x.tdiv y)), .bool (inRb (x.tdiv y))])]) (by kernel_rfl) rfl rfl ⟨by kernel_rfl, trivial⟩ rfl rfl,
        ob_alloc (by kernel_rfl) rfl z47 rfl,
        ob_store (by kernel_rfl),
        ob_store (by kernel_rfl), trivial⟩ ?_
    intro a1 w1 hk1 st1 he
    clear hk1 st a w; revert st1 he; revert a1; revert w1; intro w a st he
    replace st := st.pickTo (F' := [(0, .agg (Wd x)), (1, .agg (Wd y)), (2, .pointer (some ⟨b1, 0, none⟩)), (3, .pointer (some ⟨b2, 0, none⟩)), (4, .pointer (some ⟨b3, 0, none⟩)), (5, .pointer (some ⟨b4, 0, none⟩)), (6, .bool false), (11, .agg (Wd y)), (12, .agg (Wd 0)), (13, .bool (decide (y = 0))), (22, .agg (Wd ((x.natAbs / y.natAbs : Nat) : Int))), (23, .agg (Wd ((x.natAbs % y.natAbs : Nat) : Int))), (7, .pointer (some ⟨b5, 0, none⟩)), (8, .pointer (some ⟨b6, 0, none⟩)), (32, .agg (Wd (x.tdiv y))), (33, .bool (inRb (x.tdiv y)))]) [0, 1, 2, 3, 4, 5, 6, 11, 12, 13, 22, 23, 7, 8, 32, 33] (by kernel_rfl)
    obtain ⟨b7, heb7, hbb7, hnb7⟩ := he.new 10 rfl rfl
    replace st := (st.know heb7).add hbb7 hnb7
    replace st := st.cast rfl (show _ = ([(b7, .cells (Wd 0) 47 (0, 0)), (b6, .cells (Wd ((x.natAbs % y.natAbs : Nat) : Int)) 47 (0, 0)), (b5, .cells (Wd ((x.natAbs / y.natAbs : Nat) : Int)) 47 (0, 0)), (b4, .cells (Wd 0) 47 (0, 0)), (b3, .cells (Wd 0) 47 (0, 0)), (b2, .cells (Wd y) 47 (0, 0)), (b1, .cells (Wd x) 47 (0, 0))] : Hp) from rfl)
    clear heb7 hbb7 hnb7 he
    change wpList _ _ _ [_, _] _ _
    refine x_store st 0 rfl rfl rfl rfl (run_storeW (st.at 0 rfl) (by first | exact s47 | simp only [s47, Wd_size]) (by first | rfl | simp only [Wd_size]) (AF_one _ _)) rfl rfl ?_
    clear st a w; intro a w st
    replace st := st.cast rfl (show _ = ([(b7, .cells (Wd (x.tdiv y)) 47 (0, 0)), (b6, .cells (Wd ((x.natAbs % y.natAbs : Nat) : Int)) 47 (0, 0)), (b5, .cells (Wd ((x.natAbs / y.natAbs : Nat) : Int)) 47 (0, 0)), (b4, .cells (Wd 0) 47 (0, 0)), (b3, .cells (Wd 0) 47 (0, 0)), (b2, .cells (Wd y) 47 (0, 0)), (b1, .cells (Wd x) 47 (0, 0))] : Hp) from rfl)
    refine xseg 1 st rfl ?_
    clear st a; intro a st
    refine x_nil ?_
    show NP _ _ _ _
    refine NP.normal ?_
    refine x_seq ?_
    refine x_seq ?_
    refine x_region ?_
    refine xseg 2 st rfl ?_
    clear st a; intro a st
    refine x_nil ?_
    refine x_cond st rfl (fun h5 => ?_) (fun h5 => ?_)
    · refine x_seq ?_
      refine x_region ?_
      refine x_run (v := .agg (Wd 0)) st (r_build0 bz47 rfl) rfl rfl (by decide) ?_
      clear st a; intro a st
      refine x_run (v := .agg (Wd 0)) st (r_build0 bz47 rfl) rfl rfl (by decide) ?_
      clear st a; intro a st
      refine x_store st 4 rfl rfl rfl rfl (run_storeW (st.at 4 rfl) (by first | exact s47 | simp only [s47, Wd_size]) (by first | rfl | simp only [Wd_size]) (AF_one _ _)) rfl rfl ?_
      clear st a w; intro a w st
      replace st := st.cast rfl (show _ = ([(b7, .cells (Wd (x.tdiv y)) 47 (0, 0)), (b6, .cells (Wd ((x.natAbs % y.natAbs : Nat) : Int)) 47 (0, 0)), (b5, .cells (Wd ((x.natAbs / y.natAbs : Nat) : Int)) 47 (0, 0)), (b4, .cells (Wd 0) 47 (0, 0)), (b3, .cells (Wd 0) 47 (0, 0)), (b2, .cells (Wd y) 47 (0, 0)), (b1, .cells (Wd x) 47 (0, 0))] : Hp) from rfl)
      refine x_store st 3 rfl rfl rfl rfl (run_storeW (st.at 3 rfl) (by first | exact s47 | simp only [s47, Wd_size]) (by first | rfl | simp only [Wd_size]) (AF_one _ _)) rfl rfl ?_
      clear st a w; intro a w st
      replace st := st.cast rfl (show _ = ([(b7, .cells (Wd (x.tdiv y)) 47 (0, 0)), (b6, .cells (Wd ((x.natAbs % y.natAbs : Nat) : Int)) 47 (0, 0)), (b5, .cells (Wd ((x.natAbs / y.natAbs : Nat) : Int)) 47 (0, 0)), (b4, .cells (Wd 0) 47 (0, 0)), (b3, .cells (Wd 0) 47 (0, 0)), (b2, .cells (Wd y) 47 (0, 0)), (b1, .cells (Wd x) 47 (0, 0))] : Hp) from rfl)
      refine xseg 1 st rfl ?_
      clear st a; intro a st
      refine x_nil ?_
      refine x_wpret ?_
      refine x_thenRet ?_
      exact x_retp st [.agg (Wd 0), .agg (Wd 0), .bool false] rfl ⟨⟨_, rfl, run_loadW (st.at 4 rfl) u47 rfl s47 (Wd_size _)⟩, ⟨_, rfl, run_loadW (st.at 3 rfl) u47 rfl s47 (Wd_size _)⟩, rfl, trivial⟩ rfl ((by rw [show inRb (x.tdiv y) = false from by simpa using h5]; rfl))
    · refine wp_skip ?_
      refine x_seq ?_
      refine x_seq ?_
      refine x_region ?_
      refine x_run (v := .agg (Wd x)) st (r_load st rfl rfl (run_loadW (st.at 6 rfl) u47 rfl s47 (Wd_size _))) rfl rfl (by decide) ?_
      clear st a; intro a st
      refine x_call st rfl rfl ent29 rfl rfl (by decide) (below_ok x (by first | assumption | exact inR_64 (by first | assumption | omega)) _) ?_
      intro a1 w1 v1 hk1 hv hn st1; subst hv
      clear hn hk1 st a w; revert st1; revert a1; revert w1; intro w a st
      refine x_nil ?_
      refine x_condD st rfl (fun h7 => ?_) (fun h7 => ?_)
      · refine x_region ?_
        refine x_run (v := .agg (Wd ((x.natAbs % y.natAbs : Nat) : Int))) st (r_load st rfl rfl (run_loadW (st.at 1 rfl) u47 rfl s47 (Wd_size _))) rfl rfl (by decide) ?_
        clear st a; intro a st
        refine x_call st rfl rfl ent56 rfl rfl (by decide) (Neg_ok ((x.natAbs % y.natAbs : Nat) : Int) _) ?_
        intro a1 w1 v1 hk1 hv hn st1; subst hv
        clear hn hk1 st a w; revert st1; revert a1; revert w1; intro w a st
        refine x_store st 1 rfl rfl rfl rfl (run_storeW (st.at 1 rfl) (by first | exact s47 | simp only [s47, Wd_size]) (by first | rfl | simp only [Wd_size]) (AF_one _ _)) rfl rfl ?_
        clear st a w; intro a w st
        replace st := st.cast rfl (show _ = ([(b7, .cells (Wd (x.tdiv y)) 47 (0, 0)), (b6, .cells (Wd (-((x.natAbs % y.natAbs : Nat) : Int))) 47 (0, 0)), (b5, .cells (Wd ((x.natAbs / y.natAbs : Nat) : Int)) 47 (0, 0)), (b4, .cells (Wd 0) 47 (0, 0)), (b3, .cells (Wd 0) 47 (0, 0)), (b2, .cells (Wd y) 47 (0, 0)), (b1, .cells (Wd x) 47 (0, 0))] : Hp) from rfl)
        refine x_nil ?_
        replace st := st.cast rfl (show _ = ([(b7, .cells (Wd (x.tdiv y)) 47 (0, 0)), (b6, .cells (Wd (x.tmod y)) 47 (0, 0)), (b5, .cells (Wd ((x.natAbs / y.natAbs : Nat) : Int)) 47 (0, 0)), (b4, .cells (Wd 0) 47 (0, 0)), (b3, .cells (Wd 0) 47 (0, 0)), (b2, .cells (Wd y) 47 (0, 0)), (b1, .cells (Wd x) 47 (0, 0))] : Hp) from by rw [tmod_neg' y (by simpa using h7)])
        refine x_seq ?_
        replace st := (st.front 4 rfl).cast rfl (show _ = ([(b3, .cells (Wd 0) 47 (0, 0)), (b7, .cells (Wd (x.tdiv y)) 47 (0, 0)), (b6, .cells (Wd (x.tmod y)) 47 (0, 0)), (b5, .cells (Wd ((x.natAbs / y.natAbs : Nat) : Int)) 47 (0, 0)), (b4, .cells (Wd 0) 47 (0, 0)), (b2, .cells (Wd y) 47 (0, 0)), (b1, .cells (Wd x) 47 (0, 0))] : Hp) from rfl)
        refine x_drawE (HB := ([(b3, .cells (Wd 0) 47 (0, 0))] : Hp)) (H := ([(b7, .cells (Wd (x.tdiv y)) 47 (0, 0)), (b6, .cells (Wd (x.tmod y)) 47 (0, 0)), (b5, .cells (Wd ((x.natAbs / y.natAbs : Nat) : Int)) 47 (0, 0)), (b4, .cells (Wd 0) 47 (0, 0)), (b2, .cells (Wd y) 47 (0, 0)), (b1, .cells (Wd x) 47 (0, 0))] : Hp)) st [] [⟨2, 4, 42, 0, .inr 0, 47, 16⟩] [.det (.agg (Wd (x.tdiv y))), .det (.agg (Wd (x.tmod y))), .det undef, .det undef, .det undef] mixed (by kernel_rfl) (by kernel_rfl) ⟨⟨s47, fun v w h => ⟨Wd (x.tdiv y), h, (Wd_size _), (AF_one _ _)⟩, ⟨_, _, rfl, rfl, (Wd_size _)⟩⟩, trivial⟩
          ⟨ob_w (Fi := [(9, .pointer (some ⟨b7, 0, none⟩))]) (by kernel_rfl) rfl rfl ⟨by kernel_rfl, trivial⟩ (fun a w st hk hxx => r_load st rfl rfl (run_loadW (st.at 0 rfl) u47 rfl s47 (Wd_size _))),
            ob_w (Fi := [(8, .pointer (some ⟨b6, 0, none⟩))]) (by kernel_rfl) rfl rfl ⟨by kernel_rfl, trivial⟩ (fun a w st hk hxx => r_load st rfl rfl (run_loadW (st.at 1 rfl) u47 rfl s47 (Wd_size _))),
            ob_store (by kernel_rfl),
            ob_store (by kernel_rfl),
            ob_store (by kernel_rfl), trivial⟩ ?_
        intro a1 w1 hk1 st1 he hput hback
        clear hk1 st a w; revert st1 he hput hback; revert a1; revert w1; intro w a st he hput hback
        replace st := hback ([(b3, .cells (Wd (x.tdiv y)) 47 (0, 0))] : Hp) (by simp only [List.map_cons, List.map_nil]) (all1 ((hput ⟨2, 4, 42, 0, .inr 0, 47, 16⟩ (List.mem_of_getElem? (i := 0) rfl)).at (b := b3) (C := Wd (x.tdiv y)) st rfl rfl) (all0))
        replace st := st.cast rfl (show _ = ([(b3, .cells (Wd (x.tdiv y)) 47 (0, 0)), (b7, .cells (Wd (x.tdiv y)) 47 (0, 0)), (b6, .cells (Wd (x.tmod y)) 47 (0, 0)), (b5, .cells (Wd ((x.natAbs / y.natAbs : Nat) : Int)) 47 (0, 0)), (b4, .cells (Wd 0) 47 (0, 0)), (b2, .cells (Wd y) 47 (0, 0)), (b1, .cells (Wd x) 47 (0, 0))] : Hp) from rfl)
        clear hput hback
        replace st := st.pickTo (F' := [(0, .agg (Wd x)), (1, .agg (Wd y)), (2, .pointer (some ⟨b1, 0, none⟩)), (3, .pointer (some ⟨b2, 0, none⟩)), (4, .pointer (some ⟨b3, 0, none⟩)), (5, .pointer (some ⟨b4, 0, none⟩)), (6, .bool false), (11, .agg (Wd y)), (12, .agg (Wd 0)), (13, .bool (decide (y = 0))), (22, .agg (Wd ((x.natAbs / y.natAbs : Nat) : Int))), (23, .agg (Wd ((x.natAbs % y.natAbs : Nat) : Int))), (7, .pointer (some ⟨b5, 0, none⟩)), (8, .pointer (some ⟨b6, 0, none⟩)), (32, .agg (Wd (x.tdiv y))), (33, .bool (inRb (x.tdiv y))), (9, .pointer (some ⟨b7, 0, none⟩)), (10, .bool (inRb (x.tdiv y))), (34, .bool (inRb (x.tdiv y))), (35, .bool (!(inRb (x.tdiv y)))), (38, .agg (Wd x)), (39, .bool (decide (x < 0))), (40, .agg (Wd ((x.natAbs % y.natAbs : Nat) : Int))), (41, .agg (Wd (-((x.natAbs % y.natAbs : Nat) : Int)))), (43, .agg (Wd (x.tmod y)))]) [0, 1, 2, 3, 4, 5, 6, 11, 12, 13, 22, 23, 7, 8, 32, 33, 9, 10, 34, 35, 38, 39, 40, 41, 43] (by kernel_rfl)
        clear he
        change wpList _ _ _ [_, _] _ _
        refine x_store st 4 rfl rfl rfl rfl (run_storeW (st.at 4 rfl) (by first | exact s47 | simp only [s47, Wd_size]) (by first | rfl | simp only [Wd_size]) (AF_one _ _)) rfl rfl ?_
        clear st a w; intro a w st
        replace st := st.cast rfl (show _ = ([(b3, .cells (Wd (x.tdiv y)) 47 (0, 0)), (b7, .cells (Wd (x.tdiv y)) 47 (0, 0)), (b6, .cells (Wd (x.tmod y)) 47 (0, 0)), (b5, .cells (Wd ((x.natAbs / y.natAbs : Nat) : Int)) 47 (0, 0)), (b4, .cells (Wd (x.tmod y)) 47 (0, 0)), (b2, .cells (Wd y) 47 (0, 0)), (b1, .cells (Wd x) 47 (0, 0))] : Hp) from rfl)
        refine xseg 1 st rfl ?_
        clear st a; intro a st
        refine x_nil ?_
        show NP _ _ _ _
        refine NP.normal ?_
        refine x_wpret ?_
        exact x_retp st [.agg (Wd (x.tdiv y)), .agg (Wd (x.tmod y)), .bool true] rfl ⟨⟨_, rfl, run_loadW (st.at 0 rfl) u47 rfl s47 (Wd_size _)⟩, ⟨_, rfl, run_loadW (st.at 4 rfl) u47 rfl s47 (Wd_size _)⟩, rfl, trivial⟩ rfl ((by rw [show inRb (x.tdiv y) = true from by simpa using h5]; rfl))
      · refine wp_skip ?_
        refine x_seq ?_
        replace st := st.cast rfl (show _ = ([(b7, .cells (Wd (x.tdiv y)) 47 (0, 0)), (b6, .cells (Wd (x.tmod y)) 47 (0, 0)), (b5, .cells (Wd ((x.natAbs / y.natAbs : Nat) : Int)) 47 (0, 0)), (b4, .cells (Wd 0) 47 (0, 0)), (b3, .cells (Wd 0) 47 (0, 0)), (b2, .cells (Wd y) 47 (0, 0)), (b1, .cells (Wd x) 47 (0, 0))] : Hp) from by rw [tmod_pos' y (by simpa using h7)])
        replace st := (st.front 4 rfl).cast rfl (show _ = ([(b3, .cells (Wd 0) 47 (0, 0)), (b7, .cells (Wd (x.tdiv y)) 47 (0, 0)), (b6, .cells (Wd (x.tmod y)) 47 (0, 0)), (b5, .cells (Wd ((x.natAbs / y.natAbs : Nat) : Int)) 47 (0, 0)), (b4, .cells (Wd 0) 47 (0, 0)), (b2, .cells (Wd y) 47 (0, 0)), (b1, .cells (Wd x) 47 (0, 0))] : Hp) from rfl)
        refine x_drawE (HB := ([(b3, .cells (Wd 0) 47 (0, 0))] : Hp)) (H := ([(b7, .cells (Wd (x.tdiv y)) 47 (0, 0)), (b6, .cells (Wd (x.tmod y)) 47 (0, 0)), (b5, .cells (Wd ((x.natAbs / y.natAbs : Nat) : Int)) 47 (0, 0)), (b4, .cells (Wd 0) 47 (0, 0)), (b2, .cells (Wd y) 47 (0, 0)), (b1, .cells (Wd x) 47 (0, 0))] : Hp)) st [] [⟨2, 4, 42, 0, .inr 0, 47, 16⟩] [.det (.agg (Wd (x.tdiv y))), .det (.agg (Wd (x.tmod y))), .det undef, .det undef, .det undef] mixed (by kernel_rfl) (by kernel_rfl) ⟨⟨s47, fun v w h => ⟨Wd (x.tdiv y), h, (Wd_size _), (AF_one _ _)⟩, ⟨_, _, rfl, rfl, (Wd_size _)⟩⟩, trivial⟩
          ⟨ob_w (Fi := [(9, .pointer (some ⟨b7, 0, none⟩))]) (by kernel_rfl) rfl rfl ⟨by kernel_rfl, trivial⟩ (fun a w st hk hxx => r_load st rfl rfl (run_loadW (st.at 0 rfl) u47 rfl s47 (Wd_size _))),
            ob_w (Fi := [(8, .pointer (some ⟨b6, 0, none⟩))]) (by kernel_rfl) rfl rfl ⟨by kernel_rfl, trivial⟩ (fun a w st hk hxx => r_load st rfl rfl (run_loadW (st.at 1 rfl) u47 rfl s47 (Wd_size _))),
            ob_store (by kernel_rfl),
            ob_store (by kernel_rfl),
            ob_store (by kernel_rfl), trivial⟩ ?_
        intro a1 w1 hk1 st1 he hput hback
        clear hk1 st a w; revert st1 he hput hback; revert a1; revert w1; intro w a st he hput hback
        replace st := hback ([(b3, .cells (Wd (x.tdiv y)) 47 (0, 0))] : Hp) (by simp only [List.map_cons, List.map_nil]) (all1 ((hput ⟨2, 4, 42, 0, .inr 0, 47, 16⟩ (List.mem_of_getElem? (i := 0) rfl)).at (b := b3) (C := Wd (x.tdiv y)) st rfl rfl) (all0))
        replace st := st.cast rfl (show _ = ([(b3, .cells (Wd (x.tdiv y)) 47 (0, 0)), (b7, .cells (Wd (x.tdiv y)) 47 (0, 0)), (b6, .cells (Wd (x.tmod y)) 47 (0, 0)), (b5, .cells (Wd ((x.natAbs / y.natAbs : Nat) : Int)) 47 (0, 0)), (b4, .cells (Wd 0) 47 (0, 0)), (b2, .cells (Wd y) 47 (0, 0)), (b1, .cells (Wd x) 47 (0, 0))] : Hp) from rfl)
        clear hput hback
        replace st := st.pickTo (F' := [(0, .agg (Wd x)), (1, .agg (Wd y)), (2, .pointer (some ⟨b1, 0, none⟩)), (3, .pointer (some ⟨b2, 0, none⟩)), (4, .pointer (some ⟨b3, 0, none⟩)), (5, .pointer (some ⟨b4, 0, none⟩)), (6, .bool false), (11, .agg (Wd y)), (12, .agg (Wd 0)), (13, .bool (decide (y = 0))), (22, .agg (Wd ((x.natAbs / y.natAbs : Nat) : Int))), (23, .agg (Wd ((x.natAbs % y.natAbs : Nat) : Int))), (7, .pointer (some ⟨b5, 0, none⟩)), (8, .pointer (some ⟨b6, 0, none⟩)), (32, .agg (Wd (x.tdiv y))), (33, .bool (inRb (x.tdiv y))), (9, .pointer (some ⟨b7, 0, none⟩)), (10, .bool (inRb (x.tdiv y))), (34, .bool (inRb (x.tdiv y))), (35, .bool (!(inRb (x.tdiv y)))), (38, .agg (Wd x)), (39, .bool (decide (x < 0))), (43, .agg (Wd (x.tmod y)))]) [0, 1, 2, 3, 4, 5, 6, 11, 12, 13, 22, 23, 7, 8, 32, 33, 9, 10, 34, 35, 38, 39, 43] (by kernel_rfl)
        clear he
        change wpList _ _ _ [_, _] _ _
        refine x_store st 4 rfl rfl rfl rfl (run_storeW (st.at 4 rfl) (by first | exact s47 | simp only [s47, Wd_size]) (by first | rfl | simp only [Wd_size]) (AF_one _ _)) rfl rfl ?_
        clear st a w; intro a w st
        replace st := st.cast rfl (show _ = ([(b3, .cells (Wd (x.tdiv y)) 47 (0, 0)), (b7, .cells (Wd (x.tdiv y)) 47 (0, 0)), (b6, .cells (Wd (x.tmod y)) 47 (0, 0)), (b5, .cells (Wd ((x.natAbs / y.natAbs : Nat) : Int)) 47 (0, 0)), (b4, .cells (Wd (x.tmod y)) 47 (0, 0)), (b2, .cells (Wd y) 47 (0, 0)), (b1, .cells (Wd x) 47 (0, 0))] : Hp) from rfl)
        refine xseg 1 st rfl ?_
        clear st a; intro a st
        refine x_nil ?_
        show NP _ _ _ _
        refine NP.normal ?_
        refine x_wpret ?_
        exact x_retp st [.agg (Wd (x.tdiv y)), .agg (Wd (x.tmod y)), .bool true] rfl ⟨⟨_, rfl, run_loadW (st.at 0 rfl) u47 rfl s47 (Wd_size _)⟩, ⟨_, rfl, run_loadW (st.at 4 rfl) u47 rfl s47 (Wd_size _)⟩, rfl, trivial⟩ rfl ((by rw [show inRb (x.tdiv y) = true from by simpa using h5]; rfl))

theorem Div_ok (x y : Int) (hx : inR x) (hy : inR y) (h0 : y ≠ 0) (hq : inR (x.tdiv y)) (w0 : World) : Fn Tryd.prog 57 [.agg (Wd x), .agg (Wd y)] w0 [] (fun v _ => v = .tuple #[.agg (Wd (x.tdiv y)), .agg (Wd (x.tmod y)), .bool true]) := by
  have h := Div_all x y hx hy h0 w0
  rw [inRb_true hq] at h
  exact h

set_option maxRecDepth 20000 in
set_option maxHeartbeats 1000000 in
theorem Round_ok  (x y : Int) (hx : inR x) (hy : inR y) (h0 : 0 < y) (h2x : inR (x + x)) (h2y : inR (y + y)) (hs : inR (x + x + y)) (w0 : World) :
    Fn Tryd.prog 45 [.agg (Wd x), .agg (Wd y)] w0 [] (fun v _ => v = .tuple #[.agg (Wd ((x + x + y) / (y + y))), .bool true]) := by
  have hq := tdiv_in hs (show 0 < y + y by omega)
  have hr := tmod_in (y := y + y) hs
  refine x_enter' (n := 63) Tryd.func45 rfl rfl (Nat.le_of_ble_eq_true rfl) fun a w st => ?_
  refine x_seq ?_
  refine x_region ?_
  refine x_box st rfl rfl rfl rfl (by decide) ?_
  clear st a; intro a w b1 st
  refine x_box st rfl rfl rfl rfl (by decide) ?_
  clear st a; intro a w b2 st
  refine x_alloc st rfl z47 rfl rfl (by decide) ?_
  clear st a; intro a w b3 st
  replace st := st.cast rfl (show _ = ([(b3, .cells (Wd 0) 47 (0, 0)), (b2, .cells (Wd y) 47 (0, 0)), (b1, .cells (Wd x) 47 (0, 0))] : Hp) from rfl)
  refine xseg 1 st rfl ?_
  clear st a; intro a st
  refine x_nil ?_
  refine x_seq ?_
  refine x_seq ?_
  refine x_region ?_
  refine x_run (v := .agg (Wd y)) st (r_load st rfl rfl (run_loadW (st.at 1 rfl) u47 rfl s47 (Wd_size _))) rfl rfl (by decide) ?_
  clear st a; intro a st
  refine x_call st rfl rfl ent17 rfl rfl (by decide) (Sign_ok y (by first | assumption | exact inR_64 (by first | assumption | omega)) _) ?_
  intro a1 w1 v1 hk1 hv hn st1; subst hv
  clear hn hk1 st a w; revert st1; revert a1; revert w1; intro w a st
  refine xp st (.bool false) rfl (beq (decide_eq_false (by rw [Int.sign_eq_one_of_pos h0]; decide))) rfl rfl (by decide) ?_
  clear st a; intro a st
  refine x_nil ?_
  refine x_condF st rfl ?_
  refine wp_skip ?_
  refine x_seq ?_
  refine x_region ?_
  refine x_run (v := .agg (Wd x)) st (r_load st rfl rfl (run_loadW (st.at 2 rfl) u47 rfl s47 (Wd_size _))) rfl rfl (by decide) ?_
  clear st a; intro a st
  refine x_run (v := .agg (Wd x)) st (r_load st rfl rfl (run_loadW (st.at 2 rfl) u47 rfl s47 (Wd_size _))) rfl rfl (by decide) ?_
  clear st a; intro a st
  refine x_call st rfl rfl ent44 rfl rfl (by decide) ((Add_ok (x) (x) (by assumption) (by assumption) h2x _)) ?_
  intro a1 w1 v1 hk1 hv hn st1; subst hv
  clear hn hk1 st a w; revert st1; revert a1; revert w1; intro w a st
  refine xseg 3 st rfl ?_
  clear st a; intro a st
  refine x_alloc st rfl z47 rfl rfl (by decide) ?_
  clear st a; intro a w b4 st
  replace st := st.cast rfl (show _ = ([(b4, .cells (Wd 0) 47 (0, 0)), (b3, .cells (Wd 0) 47 (0, 0)), (b2, .cells (Wd y) 47 (0, 0)), (b1, .cells (Wd x) 47 (0, 0))] : Hp) from rfl)
  refine x_store st 0 rfl rfl rfl rfl (run_storeW (st.at 0 rfl) (by first | exact s47 | simp only [s47, Wd_size]) (by first | rfl | simp only [Wd_size]) (AF_one _ _)) rfl rfl ?_
  clear st a w; intro a w st
  replace st := st.cast rfl (show _ = ([(b4, .cells (Wd (x + x)) 47 (0, 0)), (b3, .cells (Wd 0) 47 (0, 0)), (b2, .cells (Wd y) 47 (0, 0)), (b1, .cells (Wd x) 47 (0, 0))] : Hp) from rfl)
  refine xseg 1 st rfl ?_
  clear st a; intro a st
  refine x_nil ?_
  refine x_seq ?_
  refine x_region ?_
  refine x_run (v := .agg (Wd y)) st (r_load st rfl rfl (run_loadW (st.at 2 rfl) u47 rfl s47 (Wd_size _))) rfl rfl (by decide) ?_
  clear st a; intro a st
  refine x_run (v := .agg (Wd y)) st (r_load st rfl rfl (run_loadW (st.at 2 rfl) u47 rfl s47 (Wd_size _))) rfl rfl (by decide) ?_
  clear st a; intro a st
  refine x_call st rfl rfl ent44 rfl rfl (by decide) ((Add_ok (y) (y) (by assumption) (by assumption) h2y _)) ?_
  intro a1 w1 v1 hk1 hv hn st1; subst hv
  clear hn hk1 st a w; revert st1; revert a1; revert w1; intro w a st
  refine xseg 3 st rfl ?_
  clear st a; intro a st
  refine x_alloc st rfl z47 rfl rfl (by decide) ?_
  clear st a; intro a w b5 st
  replace st := st.cast rfl (show _ = ([(b5, .cells (Wd 0) 47 (0, 0)), (b4, .cells (Wd (x + x)) 47 (0, 0)), (b3, .cells (Wd 0) 47 (0, 0)), (b2, .cells (Wd y) 47 (0, 0)), (b1, .cells (Wd x) 47 (0, 0))] : Hp) from rfl)
  refine x_store st 0 rfl rfl rfl rfl (run_storeW (st.at 0 rfl) (by first | exact s47 | simp only [s47, Wd_size]) (by first | rfl | simp only [Wd_size]) (AF_one _ _)) rfl rfl ?_
  clear st a w; intro a w st
  replace st := st.cast rfl (show _ = ([(b5, .cells (Wd (y + y)) 47 (0, 0)), (b4, .cells (Wd (x + x)) 47 (0, 0)), (b3, .cells (Wd 0) 47 (0, 0)), (b2, .cells (Wd y) 47 (0, 0)), (b1, .cells (Wd x) 47 (0, 0))] : Hp) from rfl)
  refine xseg 1 st rfl ?_
  clear st a; intro a st
  refine x_nil ?_
  refine x_seq ?_
  refine x_region ?_
  refine x_run (v := .agg (Wd (x + x))) st (r_load st rfl rfl (run_loadW (st.at 1 rfl) u47 rfl s47 (Wd_size _))) rfl rfl (by decide) ?_
  clear st a; intro a st
  refine x_run (v := .agg (Wd y)) st (r_load st rfl rfl (run_loadW (st.at 3 rfl) u47 rfl s47 (Wd_size _))) rfl rfl (by decide) ?_
  clear st a; intro a st
  refine x_call st rfl rfl ent44 rfl rfl (by decide) ((Add_ok (x + x) (y) (by assumption) (by assumption) hs _)) ?_
  intro a1 w1 v1 hk1 hv hn st1; subst hv
  clear hn hk1 st a w; revert st1; revert a1; revert w1; intro w a st
  refine xseg 3 st rfl ?_
  clear st a; intro a st
  refine x_alloc st rfl z47 rfl rfl (by decide) ?_
  clear st a; intro a w b6 st
  replace st := st.cast rfl (show _ = ([(b6, .cells (Wd 0) 47 (0, 0)), (b5, .cells (Wd (y + y)) 47 (0, 0)), (b4, .cells (Wd (x + x)) 47 (0, 0)), (b3, .cells (Wd 0) 47 (0, 0)), (b2, .cells (Wd y) 47 (0, 0)), (b1, .cells (Wd x) 47 (0, 0))] : Hp) from rfl)
  refine x_store st 0 rfl rfl rfl rfl (run_storeW (st.at 0 rfl) (by first | exact s47 | simp only [s47, Wd_size]) (by first | rfl | simp only [Wd_size]) (AF_one _ _)) rfl rfl ?_
  clear st a w; intro a w st
  replace st := st.cast rfl (show _ = ([(b6, .cells (Wd (x + x + y)) 47 (0, 0)), (b5, .cells (Wd (y + y)) 47 (0, 0)), (b4, .cells (Wd (x + x)) 47 (0, 0)), (b3, .cells (Wd 0) 47 (0, 0)), (b2, .cells (Wd y) 47 (0, 0)), (b1, .cells (Wd x) 47 (0, 0))] : Hp) from rfl)
  refine xseg 1 st rfl ?_
  clear st a; intro a st
  refine x_nil ?_
  refine x_seq ?_
  refine x_seq ?_
  refine x_region ?_
  refine xseg 1 st rfl ?_
  clear st a; intro a st
  refine xp st (.bool false) rfl rfl rfl rfl (by decide) ?_
  clear st a; intro a st
  refine xp st (.bool false) rfl rfl rfl rfl (by decide) ?_
  clear st a; intro a st
  refine x_unguard st (b := false) rfl rfl rfl ?_
  refine xseg 1 st rfl ?_
  clear st a; intro a st
  refine x_unguard st (b := false) rfl rfl rfl ?_
  refine xp st (.bool false) rfl rfl rfl rfl (by decide) ?_
  clear st a; intro a st
  refine xp st (.bool false) rfl rfl rfl rfl (by decide) ?_
  clear st a; intro a st
  refine xp st (.bool false) rfl rfl rfl rfl (by decide) ?_
  clear st a; intro a st
  refine x_unguard st (b := false) rfl rfl rfl ?_
  refine xseg 1 st rfl ?_
  clear st a; intro a st
  refine x_unguard st (b := false) rfl rfl rfl ?_
  refine xp st (.bool false) rfl rfl rfl rfl (by decide) ?_
  clear st a; intro a st
  refine xp st (.bool false) rfl rfl rfl rfl (by decide) ?_
  clear st a; intro a st
  refine x_nil ?_
  refine x_condF st rfl ?_
  refine wp_skip ?_
  refine x_seq ?_
  refine x_region ?_
  refine x_run (v := .agg (Wd (x + x + y))) st (r_load st rfl rfl (run_loadW (st.at 0 rfl) u47 rfl s47 (Wd_size _))) rfl rfl (by decide) ?_
  clear st a; intro a st
  refine x_run (v := .agg (Wd (y + y))) st (r_load st rfl rfl (run_loadW (st.at 1 rfl) u47 rfl s47 (Wd_size _))) rfl rfl (by decide) ?_
  clear st a; intro a st
  refine x_call st rfl rfl ent57 rfl rfl (by decide) ((Div_ok (x + x + y) (y + y) hs h2y (by omega) hq _)) ?_
  intro a1 w1 v1 hk1 hv hn st1; subst hv
  clear hn hk1 st a w; revert st1; revert a1; revert w1; intro w a st
  refine xseg 4 st rfl ?_
  clear st a; intro a st
  refine x_alloc st rfl z47 rfl rfl (by decide) ?_
  clear st a; intro a w b7 st
  replace st := st.cast rfl (show _ = ([(b7, .cells (Wd 0) 47 (0, 0)), (b6, .cells (Wd (x + x + y)) 47 (0, 0)), (b5, .cells (Wd (y + y)) 47 (0, 0)), (b4, .cells (Wd (x + x)) 47 (0, 0)), (b3, .cells (Wd 0) 47 (0, 0)), (b2, .cells (Wd y) 47 (0, 0)), (b1, .cells (Wd x) 47 (0, 0))] : Hp) from rfl)
  refine x_alloc st rfl z47 rfl rfl (by decide) ?_
  clear st a; intro a w b8 st
  replace st := st.cast rfl (show _ = ([(b8, .cells (Wd 0) 47 (0, 0)), (b7, .cells (Wd 0) 47 (0, 0)), (b6, .cells (Wd (x + x + y)) 47 (0, 0)), (b5, .cells (Wd (y + y)) 47 (0, 0)), (b4, .cells (Wd (x + x)) 47 (0, 0)), (b3, .cells (Wd 0) 47 (0, 0)), (b2, .cells (Wd y) 47 (0, 0)), (b1, .cells (Wd x) 47 (0, 0))] : Hp) from rfl)
  refine x_store st 1 rfl rfl rfl rfl (run_storeW (st.at 1 rfl) (by first | exact s47 | simp only [s47, Wd_size]) (by first | rfl | simp only [Wd_size]) (AF_one _ _)) rfl rfl ?_
  clear st a w; intro a w st
  replace st := st.cast rfl (show _ = ([(b8, .cells (Wd 0) 47 (0, 0)), (b7, .cells (Wd ((x + x + y).tdiv (y + y))) 47 (0, 0)), (b6, .cells (Wd (x + x + y)) 47 (0, 0)), (b5, .cells (Wd (y + y)) 47 (0, 0)), (b4, .cells (Wd (x + x)) 47 (0, 0)), (b3, .cells (Wd 0) 47 (0, 0)), (b2, .cells (Wd y) 47 (0, 0)), (b1, .cells (Wd x) 47 (0, 0))] : Hp) from rfl)
  refine x_store st 0 rfl rfl rfl rfl (run_storeW (st.at 0 rfl) (by first | exact s47 | simp only [s47, Wd_size]) (by first | rfl | simp only [Wd_size]) (AF_one _ _)) rfl rfl ?_
  clear st a w; intro a w st
  replace st := st.cast rfl (show _ = ([(b8, .cells (Wd ((x + x + y).tmod (y + y))) 47 (0, 0)), (b7, .cells (Wd ((x + x + y).tdiv (y + y))) 47 (0, 0)), (b6, .cells (Wd (x + x + y)) 47 (0, 0)), (b5, .cells (Wd (y + y)) 47 (0, 0)), (b4, .cells (Wd (x + x)) 47 (0, 0)), (b3, .cells (Wd 0) 47 (0, 0)), (b2, .cells (Wd y) 47 (0, 0)), (b1, .cells (Wd x) 47 (0, 0))] : Hp) from rfl)
  refine xseg 1 st rfl ?_
  clear st a; intro a st
  refine x_nil ?_
  refine x_seq ?_
  refine x_seq ?_
  refine x_region ?_
  refine x_run (v := .agg (Wd ((x + x + y).tmod (y + y)))) st (r_load st rfl rfl (run_loadW (st.at 0 rfl) u47 rfl s47 (Wd_size _))) rfl rfl (by decide) ?_
  clear st a; intro a st
  refine x_call st rfl rfl ent29 rfl rfl (by decide) (below_ok ((x + x + y).tmod (y + y)) hr _) ?_
  intro a1 w1 v1 hk1 hv hn st1; subst hv
  clear hn hk1 st a w; revert st1; revert a1; revert w1; intro w a st
  refine x_nil ?_
  refine x_condD st rfl (fun h9 => ?_) (fun h9 => ?_)
  · refine x_seq ?_
    have hfl := floor_neg (show 0 < y + y by omega) (by simpa using h9)
    have hqi : inR ((x + x + y).tdiv (y + y) - 1) := by rw [hfl]; exact ediv_in hs (by omega)
    refine x_draw st [] [.det (.agg (Wd ((x + x + y).tdiv (y + y)))), .det (.agg (Wd 1)), .det (.tuple #[.agg (Wd ((x + x + y).tdiv (y + y) - 1)), .bool true]), .det (.agg (Wd ((x + x + y).tdiv (y + y) - 1))), .det (.bool true), .det undef, .det undef] mixed (by kernel_rfl)
      ⟨ob_w (Fi := [(12, .pointer (some ⟨b7, 0, none⟩))]) (by kernel_rfl) rfl rfl ⟨by kernel_rfl, trivial⟩ (fun a w st hk hxx => r_load st rfl rfl (run_loadW (st.at 1 rfl) u47 rfl s47 (Wd_size _))),
        ob_call (Fi := []) (by kernel_rfl) rfl ent31 rfl trivial rfl (fun a w st hk hxx => (Of_ok 1 (by decide) _)) (fun _ _ _ _ hp => ⟨hp, fun b hb => by cases hb⟩),
        ob_call (Fi := [(57, .agg (Wd ((x + x + y).tdiv (y + y)))), (58, .agg (Wd 1))]) (by kernel_rfl) rfl ent15 rfl ⟨by kernel_rfl, by kernel_rfl, trivial⟩ rfl (fun a w st hk hxx => (Sub_ok ((x + x + y).tdiv (y + y)) 1 hq (inR_64 (by omega)) hqi _)) (fun _ _ _ _ hp => ⟨hp, fun b hb => by cases hb⟩),
        ob_p (Fi := [(59, .tuple #[.agg (Wd ((x + x + y).tdiv (y + y) - 1)), .bool true])]) (by kernel_rfl) rfl rfl ⟨by kernel_rfl, trivial⟩ rfl rfl,
        ob_p (Fi := [(59, .tuple #[.agg (Wd ((x + x + y).tdiv (y + y) - 1)), .bool true])]) (by kernel_rfl) rfl rfl ⟨by kernel_rfl, trivial⟩ rfl rfl,
        ob_store (by kernel_rfl),
        ob_store (by kernel_rfl), trivial⟩ ?_
    intro a1 w1 hk1 st1 he
    clear hk1 st a w; revert st1 he; revert a1; revert w1; intro w a st he
    replace st := st.pickTo (F' := [(0, .agg (Wd x)), (1, .agg (Wd y)), (2, .pointer (some ⟨b1, 0, none⟩)), (3, .pointer (some ⟨b2, 0, none⟩)), (4, .pointer (some ⟨b3, 0, none⟩)), (5, .bool false), (15, .agg (Wd y)), (16, .int .i64 y.sign), (17, .bool false), (20, .agg (Wd x)), (21, .agg (Wd x)), (22, .tuple #[.agg (Wd (x + x)), .bool true]), (19, .tuple #[.agg (Wd (x + x)), .bool true]), (23, .agg (Wd (x + x))), (24, .bool true), (6, .pointer (some ⟨b4, 0, none⟩)), (7, .bool true), (26, .agg (Wd y)), (27, .agg (Wd y)), (28, .tuple #[.agg (Wd (y + y)), .bool true]), (25, .tuple #[.agg (Wd (y + y)), .bool true]), (29, .agg (Wd (y + y))), (30, .bool true), (8, .pointer (some ⟨b5, 0, none⟩)), (9, .bool true), (32, .agg (Wd (x + x))), (33, .agg (Wd y)), (34, .tuple #[.agg (Wd (x + x + y)), .bool true]), (31, .tuple #[.agg (Wd (x + x + y)), .bool true]), (35, .agg (Wd (x + x + y))), (36, .bool true), (10, .pointer (some ⟨b6, 0, none⟩)), (11, .bool true), (37, .bool true), (38, .bool false), (39, .bool false), (40, .bool true), (41, .bool false), (42, .bool false), (43, .bool false), (44, .bool true), (45, .bool false), (46, .bool false), (49, .agg (Wd (x + x + y))), (50, .agg (Wd (y + y))), (51, .tuple #[.agg (Wd ((x + x + y).tdiv (y + y))), .agg (Wd ((x + x + y).tmod (y + y))), .bool true]), (48, .tuple #[.agg (Wd ((x + x + y).tdiv (y + y))), .agg (Wd ((x + x + y).tmod (y + y))), .bool true]), (52, .agg (Wd ((x + x + y).tdiv (y + y)))), (53, .agg (Wd ((x + x + y).tmod (y + y)))), (54, .bool true), (12, .pointer (some ⟨b7, 0, none⟩)), (13, .pointer (some ⟨b8, 0, none⟩)), (14, .bool true), (55, .agg (Wd ((x + x + y).tmod (y + y)))), (56, .bool (decide ((x + x + y).tmod (y + y) < 0))), (60, .agg (Wd ((x + x + y).tdiv (y + y) - 1))), (61, .bool true)]) [0, 1, 2, 3, 4, 5, 15, 16, 17, 20, 21, 22, 19, 23, 24, 6, 7, 26, 27, 28, 25, 29, 30, 8, 9, 32, 33, 34, 31, 35, 36, 10, 11, 37, 38, 39, 40, 41, 42, 43, 44, 45, 46, 49, 50, 51, 48, 52, 53, 54, 12, 13, 14, 55, 56, 60, 61] (by kernel_rfl)
    clear he
    change wpList _ _ _ [_, _] _ _
    refine x_store st 5 rfl rfl rfl rfl (run_storeW (st.at 5 rfl) (by first | exact s47 | simp only [s47, Wd_size]) (by first | rfl | simp only [Wd_size]) (AF_one _ _)) rfl rfl ?_
    clear st a w; intro a w st
    replace st := st.cast rfl (show _ = ([(b8, .cells (Wd ((x + x + y).tmod (y + y))) 47 (0, 0)), (b7, .cells (Wd ((x + x + y).tdiv (y + y))) 47 (0, 0)), (b6, .cells (Wd (x + x + y)) 47 (0, 0)), (b5, .cells (Wd (y + y)) 47 (0, 0)), (b4, .cells (Wd (x + x)) 47 (0, 0)), (b3, .cells (Wd ((x + x + y).tdiv (y + y) - 1)) 47 (0, 0)), (b2, .cells (Wd y) 47 (0, 0)), (b1, .cells (Wd x) 47 (0, 0))] : Hp) from rfl)
    refine xseg 1 st rfl ?_
    clear st a; intro a st
    refine x_nil ?_
    show NP _ _ _ _
    refine NP.normal ?_
    refine x_wpret ?_
    refine x_thenRet ?_
    exact x_retp st [.agg (Wd ((x + x + y).tdiv (y + y) - 1)), .bool true] rfl ⟨⟨_, rfl, run_loadW (st.at 5 rfl) u47 rfl s47 (Wd_size _)⟩, rfl, trivial⟩ rfl ((by rw [hfl]; rfl))
  · refine wp_skip ?_
    refine x_seq ?_
    refine x_region ?_
    refine x_run (v := .agg (Wd ((x + x + y).tdiv (y + y)))) st (r_load st rfl rfl (run_loadW (st.at 1 rfl) u47 rfl s47 (Wd_size _))) rfl rfl (by decide) ?_
    clear st a; intro a st
    refine x_store st 5 rfl rfl rfl rfl (run_storeW (st.at 5 rfl) (by first | exact s47 | simp only [s47, Wd_size]) (by first | rfl | simp only [Wd_size]) (AF_one _ _)) rfl rfl ?_
    clear st a w; intro a w st
    replace st := st.cast rfl (show _ = ([(b8, .cells (Wd ((x + x + y).tmod (y + y))) 47 (0, 0)), (b7, .cells (Wd ((x + x + y).tdiv (y + y))) 47 (0, 0)), (b6, .cells (Wd (x + x + y)) 47 (0, 0)), (b5, .cells (Wd (y + y)) 47 (0, 0)), (b4, .cells (Wd (x + x)) 47 (0, 0)), (b3, .cells (Wd ((x + x + y).tdiv (y + y))) 47 (0, 0)), (b2, .cells (Wd y) 47 (0, 0)), (b1, .cells (Wd x) 47 (0, 0))] : Hp) from rfl)
    refine xseg 1 st rfl ?_
    clear st a; intro a st
    refine x_nil ?_
    refine x_wpret ?_
    exact x_retp st [.agg (Wd ((x + x + y).tdiv (y + y))), .bool true] rfl ⟨⟨_, rfl, run_loadW (st.at 5 rfl) u47 rfl s47 (Wd_size _)⟩, rfl, trivial⟩ rfl ((by rw [floor_pos (show 0 < y + y by omega) (by simpa using h9)]; rfl))

end Go.Proofs.YtnkbhmonceiocaaDoor
