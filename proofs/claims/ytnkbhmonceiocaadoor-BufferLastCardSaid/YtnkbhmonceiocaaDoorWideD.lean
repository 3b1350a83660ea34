/-
  The package wide of the program: Mul: what it returns, for every two numbers.
-/
import Derived.Test.YtnkbhmonceiocaaDoorWideC
import Derived.Test.YtnkbhmonceiocaaDoorMulP
namespace Go.Proofs.YtnkbhmonceiocaaDoor
open Go Go.RowKit
namespace FWideD
theorem add64 (x y c : Nat) (hx : x < BB) (hy : y < BB) (hc : c ≤ 1) (w : World) : (callFunc 40 #[.int .u64 x, .int .u64 y, .int .u64 c]).run Tryd.prog w =
    .ok (.value (.tuple #[.int .u64 (((x + y + c) % BB : Nat) : Int), .int .u64 (((x + y + c) / BB : Nat) : Int)])) w := by
  rw [run_callFunc_extern Tryd.func40 (by kernel_rfl) (by kernel_rfl) (by kernel_rfl) (e := add64Entry) (by kernel_rfl), run_add64 x y c (by omega) (by omega) (by omega) (by omega)]
  simp only [Result.andThen]
  congr 5 <;> omega
theorem bz47 (w : World) : (Instr.build 47 #[]).run Tryd.prog w = .ok (.agg (Wd 0)) w := by kernel_rfl
theorem ent29 (args : Array Value) (w : World) : (callFunc 29 args).run Tryd.prog w = .ok (.enter 29 args) w := enters_at Tryd.func29 (by kernel_rfl) rfl args w
theorem ent32 (args : Array Value) (w : World) : (callFunc 32 args).run Tryd.prog w = .ok (.enter 32 args) w := enters_at Tryd.func32 (by kernel_rfl) rfl args w
theorem ent41 (args : Array Value) (w : World) : (callFunc 41 args).run Tryd.prog w = .ok (.enter 41 args) w := enters_at Tryd.func41 (by kernel_rfl) rfl args w
theorem ent42 (args : Array Value) (w : World) : (callFunc 42 args).run Tryd.prog w = .ok (.enter 42 args) w := enters_at Tryd.func42 (by kernel_rfl) rfl args w
theorem ent43 (args : Array Value) (w : World) : (callFunc 43 args).run Tryd.prog w = .ok (.enter 43 args) w := enters_at Tryd.func43 (by kernel_rfl) rfl args w
theorem mixed : Tryd.prog.follows .mixedOrders = true := by kernel_rfl
theorem s45 : (Tryd.prog.info? 45).map (·.size) = some 1 := by kernel_rfl
theorem s47 : (Tryd.prog.info? 47).map (·.size) = some 16 := by kernel_rfl
theorem u4 : Tryd.prog.underlying 4 = some (.bool) := by kernel_rfl
theorem u45 : Tryd.prog.underlying 45 = some (.int .u64) := by kernel_rfl
theorem u47 : Tryd.prog.underlying 47 = some (.array 16 45) := by kernel_rfl
theorem u85 : Tryd.prog.underlying 85 = some (.slice 45) := by kernel_rfl
theorem u86 : Tryd.prog.underlying 86 = some (.array 17 45) := by kernel_rfl
theorem z47 : (Tryd.prog.info? 47).bind (·.zero) = some (.agg (#[.int .u64 0, .int .u64 0, .int .u64 0, .int .u64 0, .int .u64 0, .int .u64 0, .int .u64 0, .int .u64 0, .int .u64 0, .int .u64 0, .int .u64 0, .int .u64 0, .int .u64 0, .int .u64 0, .int .u64 0, .int .u64 0])) := by kernel_rfl
theorem z86 : (Tryd.prog.info? 86).bind (·.zero) = some (.agg (#[.int .u64 0, .int .u64 0, .int .u64 0, .int .u64 0, .int .u64 0, .int .u64 0, .int .u64 0, .int .u64 0, .int .u64 0, .int .u64 0, .int .u64 0, .int .u64 0, .int .u64 0, .int .u64 0, .int .u64 0, .int .u64 0, .int .u64 0])) := by kernel_rfl
end FWideD
open FWideD
set_option maxRecDepth 20000 in
set_option maxHeartbeats 1000000 in
theorem Mul_all  (x y : Int) (hx : inR x) (hy : inR y) (w0 : World) :
    Fn Tryd.prog 30 [.agg (Wd x), .agg (Wd y)] w0 [] (fun v _ => v = .tuple #[.agg (Wd (bif inRb (x * y) then x * y else 0)), .bool (inRb (x * y))]) := by
  have hn := nl_le x
  have hm := nl_le y
  refine x_enter' (n := 118) Tryd.func30 rfl rfl (Nat.le_of_ble_eq_true rfl) fun a w st => ?_
  refine x_seq ?_
  refine x_region ?_
  refine x_box st rfl rfl rfl rfl (by decide) ?_
  clear st a; intro a w b1 st
  refine x_box st rfl rfl rfl rfl (by decide) ?_
  clear st a; intro a w b2 st
  refine x_alloc st rfl z47 rfl rfl (by decide) ?_
  clear st a; intro a w b3 st
  replace st := st.cast rfl (show _ = ([(b3, .cells (Wd 0) 47 (0, 0)), (b2, .cells (Wd y) 47 (0, 0)), (b1, .cells (Wd x) 47 (0, 0))] : Hp) from rfl)
  refine xseg 1 st rfl ?_
  clear st a; intro a st
  refine x_nil ?_
  refine x_seq ?_
  refine x_drawE (HB := ([] : Hp)) (H := ([(b3, .cells (Wd 0) 47 (0, 0)), (b2, .cells (Wd y) 47 (0, 0)), (b1, .cells (Wd x) 47 (0, 0))] : Hp)) st [] [⟨6, 6, 22, 1, .inl 4, 47, 16⟩] [.det (.agg (Wd x)), .det (.agg (Wd (x.natAbs : Int))), .det (.agg (Wd y)), .det (.agg (Wd (y.natAbs : Int))), .spec (.cell 47 16), .spec (.new (.cells (.agg (#[.int .u64 0, .int .u64 0, .int .u64 0, .int .u64 0, .int .u64 0, .int .u64 0, .int .u64 0, .int .u64 0, .int .u64 0, .int .u64 0, .int .u64 0, .int .u64 0, .int .u64 0, .int .u64 0, .int .u64 0, .int .u64 0]) : Value).cells 47 (0, 0))), .det undef, .det undef] mixed (by kernel_rfl) (by kernel_rfl) ⟨⟨s47, fun v w h => ⟨Wd (x.natAbs : Int), h, (Wd_size _), (AF_one _ _)⟩, rfl⟩, trivial⟩
    ⟨ob_w (Fi := [(2, .pointer (some ⟨b1, 0, none⟩))]) (by kernel_rfl) rfl rfl ⟨by kernel_rfl, trivial⟩ (fun a w st hk hxx => r_load st rfl rfl (run_loadW (st.at 2 rfl) u47 rfl s47 (Wd_size _))),
      ob_call (Fi := [(21, .agg (Wd x))]) (by kernel_rfl) rfl ent41 rfl ⟨by kernel_rfl, trivial⟩ rfl (fun a w st hk hxx => amount_ok x (by first | assumption | exact inR_64 (by first | assumption | omega)) _) (fun _ _ _ _ hp => ⟨hp, fun b hb => by cases hb⟩),
      ob_w (Fi := [(3, .pointer (some ⟨b2, 0, none⟩))]) (by kernel_rfl) rfl rfl ⟨by kernel_rfl, trivial⟩ (fun a w st hk hxx => r_load st rfl rfl (run_loadW (st.at 1 rfl) u47 rfl s47 (Wd_size _))),
      ob_call (Fi := [(23, .agg (Wd y))]) (by kernel_rfl) rfl ent41 rfl ⟨by kernel_rfl, trivial⟩ rfl (fun a w st hk hxx => amount_ok y (by first | assumption | exact inR_64 (by first | assumption | omega)) _) (fun _ _ _ _ hp => ⟨hp, fun b hb => by cases hb⟩),
      ob_cell (by kernel_rfl) rfl z47 rfl rfl,
      ob_alloc (by kernel_rfl) rfl z47 rfl,
      ob_store (by kernel_rfl),
      ob_store (by kernel_rfl), trivial⟩ ?_
  intro a1 w1 hk1 st1 he hput hback
  clear hk1 st a w; revert st1 he hput hback; revert a1; revert w1; intro w a st he hput hback
  obtain ⟨b4, heb4, hnb4⟩ := he.cell 4 rfl rfl
  replace st := (st.know heb4).add ((hput ⟨6, 6, 22, 1, .inl 4, 47, 16⟩ (List.mem_of_getElem? (i := 0) rfl)).at (b := b4) (C := Wd (x.natAbs : Int)) (st.know heb4) rfl rfl) hnb4
  replace st := st.cast rfl (show _ = ([(b4, .cells (Wd (x.natAbs : Int)) 47 (0, 0)), (b3, .cells (Wd 0) 47 (0, 0)), (b2, .cells (Wd y) 47 (0, 0)), (b1, .cells (Wd x) 47 (0, 0))] : Hp) from rfl)
  clear hput hback
  replace st := st.pickTo (F' := [(0, .agg (Wd x)), (1, .agg (Wd y)), (2, .pointer (some ⟨b1, 0, none⟩)), (3, .pointer (some ⟨b2, 0, none⟩)), (4, .pointer (some ⟨b3, 0, none⟩)), (5, .bool false), (24, .agg (Wd (y.natAbs : Int))), (6, .pointer (some ⟨b4, 0, none⟩))]) [0, 1, 2, 3, 4, 5, 24, 6] (by kernel_rfl)
  obtain ⟨b5, heb5, hbb5, hnb5⟩ := he.new 5 rfl rfl
  replace st := (st.know heb5).add hbb5 ⟨List.not_mem_cons_of_ne_of_not_mem (he.ptr_ne 4 5 (by decide) rfl rfl rfl rfl rfl rfl heb4 heb5) ( hnb5.1), hnb5.2⟩
  replace st := st.cast rfl (show _ = ([(b5, .cells (Wd 0) 47 (0, 0)), (b4, .cells (Wd (x.natAbs : Int)) 47 (0, 0)), (b3, .cells (Wd 0) 47 (0, 0)), (b2, .cells (Wd y) 47 (0, 0)), (b1, .cells (Wd x) 47 (0, 0))] : Hp) from rfl)
  clear heb5 hbb5 hnb5 heb4 hnb4 he
  change wpList _ _ _ [_] _ _
  refine x_store st 0 rfl rfl rfl rfl (run_storeW (st.at 0 rfl) (by first | exact s47 | simp only [s47, Wd_size]) (by first | rfl | simp only [Wd_size]) (AF_one _ _)) rfl rfl ?_
  clear st a w; intro a w st
  replace st := st.cast rfl (show _ = ([(b5, .cells (Wd (y.natAbs : Int)) 47 (0, 0)), (b4, .cells (Wd (x.natAbs : Int)) 47 (0, 0)), (b3, .cells (Wd 0) 47 (0, 0)), (b2, .cells (Wd y) 47 (0, 0)), (b1, .cells (Wd x) 47 (0, 0))] : Hp) from rfl)
  refine x_nil ?_
  show NP _ _ _ _
  refine NP.normal ?_
  refine x_seq ?_
  refine x_draw st [] [.det (.slice (some ⟨b4, 0, none⟩) 16 16), .det (.int .i64 ((nl x : Nat) : Int)), .det (.slice (some ⟨b5, 0, none⟩) 16 16), .det (.int .i64 ((nl y : Nat) : Int)), .det (.int .i64 ((nl x : Nat) : Int)), .det (.int .i64 ((nl y : Nat) : Int))] mixed (by kernel_rfl)
    ⟨ob_run (Fi := [(6, .pointer (some ⟨b4, 0, none⟩))]) (by kernel_rfl) rfl rfl ⟨by kernel_rfl, trivial⟩ (fun a w st hk hxx w' => r_slice st rfl rfl rfl rfl rfl rfl ⟨rfl, rfl⟩ (run_sliceA0 u47 s45 _)),
      ob_call (Fi := [(25, .slice (some ⟨b4, 0, none⟩) 16 16)]) (by kernel_rfl) rfl ent42 rfl ⟨by kernel_rfl, trivial⟩ rfl (fun a w st hk hxx => (count_ok b4 16 16 16 (limb (x.natAbs : Int)) 47 (0, 0) (by omega) (by omega) (st.at 1 rfl))) (fun _ _ _ _ hp => ⟨hp, fun b hb => by cases hb⟩),
      ob_run (Fi := [(7, .pointer (some ⟨b5, 0, none⟩))]) (by kernel_rfl) rfl rfl ⟨by kernel_rfl, trivial⟩ (fun a w st hk hxx w' => r_slice st rfl rfl rfl rfl rfl rfl ⟨rfl, rfl⟩ (run_sliceA0 u47 s45 _)),
      ob_call (Fi := [(27, .slice (some ⟨b5, 0, none⟩) 16 16)]) (by kernel_rfl) rfl ent42 rfl ⟨by kernel_rfl, trivial⟩ rfl (fun a w st hk hxx => (count_ok b5 16 16 16 (limb (y.natAbs : Int)) 47 (0, 0) (by omega) (by omega) (st.at 0 rfl))) (fun _ _ _ _ hp => ⟨hp, fun b hb => by cases hb⟩),
      ob_p (Fi := [(26, .int .i64 ((nl x : Nat) : Int))]) (by kernel_rfl) rfl rfl ⟨by kernel_rfl, trivial⟩ rfl rfl,
      ob_p (Fi := [(28, .int .i64 ((nl y : Nat) : Int))]) (by kernel_rfl) rfl rfl ⟨by kernel_rfl, trivial⟩ rfl rfl, trivial⟩ ?_
  intro a1 w1 hk1 st1 he
  clear hk1 st a w; revert st1 he; revert a1; revert w1; intro w a st he
  replace st := st.pickTo (F' := [(0, .agg (Wd x)), (1, .agg (Wd y)), (2, .pointer (some ⟨b1, 0, none⟩)), (3, .pointer (some ⟨b2, 0, none⟩)), (4, .pointer (some ⟨b3, 0, none⟩)), (5, .bool false), (24, .agg (Wd (y.natAbs : Int))), (6, .pointer (some ⟨b4, 0, none⟩)), (7, .pointer (some ⟨b5, 0, none⟩)), (8, .int .i64 ((nl x : Nat) : Int)), (9, .int .i64 ((nl y : Nat) : Int))]) [0, 1, 2, 3, 4, 5, 24, 6, 7, 8, 9] (by kernel_rfl)
  clear he
  change wpList _ _ _ [] _ _
  refine x_nil ?_
  show NP _ _ _ _
  refine NP.normal ?_
  refine x_seq ?_
  refine x_seq ?_
  rcases Nat.eq_zero_or_pos (nl x) with h1 | h1
  · skip
    refine x_region ?_
    refine xseg 1 st rfl ?_
    clear st a; intro a st
    refine xp st (.bool true) rfl (beq (by rw [h1]; rfl)) rfl rfl (by decide) ?_
    clear st a; intro a st
    refine xseg 1 st rfl ?_
    clear st a; intro a st
    refine x_skip st (b := false) (c := true) rfl rfl rfl (by decide) rfl (by decide) ?_
    clear st a; intro a st
    refine x_skip st (b := false) (c := true) rfl rfl rfl (by decide) rfl (by decide) ?_
    clear st a; intro a st
    refine xseg 1 st rfl ?_
    clear st a; intro a st
    refine x_nil ?_
    refine x_condT st rfl ?_
    refine x_seq ?_
    refine x_region ?_
    refine x_run (v := .agg (Wd 0)) st (r_build0 bz47 rfl) rfl rfl (by decide) ?_
    clear st a; intro a st
    refine x_store st 2 rfl rfl rfl rfl (run_storeW (st.at 2 rfl) (by first | exact s47 | simp only [s47, Wd_size]) (by first | rfl | simp only [Wd_size]) (AF_one _ _)) rfl rfl ?_
    clear st a w; intro a w st
    replace st := st.cast rfl (show _ = ([(b5, .cells (Wd (y.natAbs : Int)) 47 (0, 0)), (b4, .cells (Wd (x.natAbs : Int)) 47 (0, 0)), (b3, .cells (Wd 0) 47 (0, 0)), (b2, .cells (Wd y) 47 (0, 0)), (b1, .cells (Wd x) 47 (0, 0))] : Hp) from rfl)
    refine xseg 1 st rfl ?_
    clear st a; intro a st
    refine x_nil ?_
    refine x_wpret ?_
    refine x_thenRet ?_
    exact x_retp st [.agg (Wd 0), .bool true] rfl ⟨⟨_, rfl, run_loadW (st.at 2 rfl) u47 rfl s47 (Wd_size _)⟩, rfl, trivial⟩ rfl (mul_post0 (by rw [nl_zero hx h1, Int.zero_mul]))
  · skip
    refine x_region ?_
    refine xseg 1 st rfl ?_
    clear st a; intro a st
    refine xp st (.bool false) rfl (beq (beq_eq_false_iff_ne.2 (by omega))) rfl rfl (by decide) ?_
    clear st a; intro a st
    refine xseg 1 st rfl ?_
    clear st a; intro a st
    refine x_unguard st (b := false) rfl rfl rfl ?_
    refine xseg 1 st rfl ?_
    clear st a; intro a st
    refine x_unguard st (b := false) rfl rfl rfl ?_
    refine xseg 2 st rfl ?_
    clear st a; intro a st
    refine x_nil ?_
    refine x_condE st rfl (fun h2 => ?_) (fun h2 => ?_)
    · refine x_seq ?_
      refine x_region ?_
      refine x_run (v := .agg (Wd 0)) st (r_build0 bz47 rfl) rfl rfl (by decide) ?_
      clear st a; intro a st
      refine x_store st 2 rfl rfl rfl rfl (run_storeW (st.at 2 rfl) (by first | exact s47 | simp only [s47, Wd_size]) (by first | rfl | simp only [Wd_size]) (AF_one _ _)) rfl rfl ?_
      clear st a w; intro a w st
      replace st := st.cast rfl (show _ = ([(b5, .cells (Wd (y.natAbs : Int)) 47 (0, 0)), (b4, .cells (Wd (x.natAbs : Int)) 47 (0, 0)), (b3, .cells (Wd 0) 47 (0, 0)), (b2, .cells (Wd y) 47 (0, 0)), (b1, .cells (Wd x) 47 (0, 0))] : Hp) from rfl)
      refine xseg 1 st rfl ?_
      clear st a; intro a st
      refine x_nil ?_
      refine x_wpret ?_
      refine x_thenRet ?_
      exact x_retp st [.agg (Wd 0), .bool true] rfl ⟨⟨_, rfl, run_loadW (st.at 2 rfl) u47 rfl s47 (Wd_size _)⟩, rfl, trivial⟩ rfl (mul_post0 (by rw [nl_zero hy (by omega), Int.mul_zero]))
    · refine wp_skip ?_
      refine x_seq ?_
      refine x_seq ?_
      refine x_region ?_
      refine xseg 2 st rfl ?_
      clear st a; intro a st
      refine xp st (.int .i64 ((nl x + (nl y) : Nat) : Int)) rfl (wi64 (by omega) (by omega)) rfl rfl (by decide) ?_
      clear st a; intro a st
      refine xp st (.int .i64 ((nl x + nl y - 1 : Nat) : Int)) rfl (wi64 (by omega) (by omega)) rfl rfl (by decide) ?_
      clear st a; intro a st
      refine xseg 1 st rfl ?_
      clear st a; intro a st
      refine x_nil ?_
      refine x_condD st rfl (fun h3 => ?_) (fun h3 => ?_)
      · refine x_seq ?_
        refine x_region ?_
        refine x_run (v := .agg (Wd 0)) st (r_build0 bz47 rfl) rfl rfl (by decide) ?_
        clear st a; intro a st
        refine x_store st 2 rfl rfl rfl rfl (run_storeW (st.at 2 rfl) (by first | exact s47 | simp only [s47, Wd_size]) (by first | rfl | simp only [Wd_size]) (AF_one _ _)) rfl rfl ?_
        clear st a w; intro a w st
        replace st := st.cast rfl (show _ = ([(b5, .cells (Wd (y.natAbs : Int)) 47 (0, 0)), (b4, .cells (Wd (x.natAbs : Int)) 47 (0, 0)), (b3, .cells (Wd 0) 47 (0, 0)), (b2, .cells (Wd y) 47 (0, 0)), (b1, .cells (Wd x) 47 (0, 0))] : Hp) from rfl)
        refine xseg 1 st rfl ?_
        clear st a; intro a st
        refine x_nil ?_
        refine x_wpret ?_
        refine x_thenRet ?_
        exact x_retp st [.agg (Wd 0), .bool false] rfl ⟨⟨_, rfl, run_loadW (st.at 2 rfl) u47 rfl s47 (Wd_size _)⟩, rfl, trivial⟩ rfl (mul_postN (mul_big hx hy (by omega) (by omega) (by omega)))
      · refine wp_skip ?_
        refine x_seq ?_
        refine x_region ?_
        refine x_alloc st rfl z86 rfl rfl (by decide) ?_
        clear st a; intro a w b6 st
        replace st := st.cast rfl (show _ = ([(b6, .cells (AF 17 (fun _ => 0)) 86 (0, 0)), (b5, .cells (Wd (y.natAbs : Int)) 47 (0, 0)), (b4, .cells (Wd (x.natAbs : Int)) 47 (0, 0)), (b3, .cells (Wd 0) 47 (0, 0)), (b2, .cells (Wd y) 47 (0, 0)), (b1, .cells (Wd x) 47 (0, 0))] : Hp) from rfl)
        refine x_nil ?_
        refine x_seq ?_
        refine x_seq ?_
        refine x_region ?_
        refine xseg 1 st rfl ?_
        clear st a; intro a st
        refine x_run (v := .slice (some ⟨b4, 0, none⟩) (nl x) 16) st (r_slice st rfl rfl rfl rfl rfl rfl ⟨rfl, rfl⟩ (run_sliceA (k := nl x) u47 s45 (by omega) _)) rfl rfl (by decide) ?_
        clear st a; intro a st
        refine x_run (v := .int .i64 ((nl x : Nat) : Int)) st (r_len st rfl rfl u85) rfl rfl (by decide) ?_
        clear st a; intro a st
        refine xseg 1 st rfl ?_
        clear st a; intro a st
        refine x_nil ?_
        refine wp_block ?_
        refine x_loop (G := Nat) (fun i a w => ∃ g, St w0 [] 118 [(2, .pointer (some ⟨b1, 0, none⟩)), (3, .pointer (some ⟨b2, 0, none⟩)), (4, .pointer (some ⟨b3, 0, none⟩)), (5, .bool false), (7, .pointer (some ⟨b5, 0, none⟩)), (8, .int .i64 ((nl x : Nat) : Int)), (9, .int .i64 ((nl y : Nat) : Int)), (10, .pointer (some ⟨b6, 0, none⟩)), (43, .slice (some ⟨b4, 0, none⟩) (nl x) 16), (44, .int .i64 ((nl x : Nat) : Int)), (45, .int .i64 ((i : Nat) : Int))] ([(b6, .cells (AF 17 g) 86 (0, 0)), (b5, .cells (Wd (y.natAbs : Int)) 47 (0, 0)), (b4, .cells (Wd (x.natAbs : Int)) 47 (0, 0)), (b3, .cells (Wd 0) 47 (0, 0)), (b2, .cells (Wd y) 47 (0, 0)), (b1, .cells (Wd x) 47 (0, 0))] : Hp) a w ∧ (i ≤ nl x) ∧ (∀ j, j < 17 → g j < BB) ∧ (∀ j, i + nl y ≤ j → j < 17 → g j = 0) ∧ (val 17 g = val i (limb (x.natAbs : Int)) * y.natAbs)) (fun i => nl x - i) 0 ⟨_, st.pickTo [2, 3, 4, 5, 7, 8, 9, 10, 43, 44, 45] (by kernel_rfl), by omega, fun j _ => (by decide : 0 < BB), fun j _ _ => rfl, (val_zero 17).trans (Nat.zero_mul _).symm⟩ ?_
        clear st a w; intro i a w ⟨g, st, hi, hg, hz, hv⟩
        refine x_seq ?_
        refine x_region ?_
        refine xseg 1 st rfl ?_
        clear st a; intro a st
        refine x_nil ?_
        refine x_seq ?_
        refine x_condD st rfl (fun h9 => ?_) (fun h9 => ?_)
        · refine wp_skip ?_
          refine x_seq ?_
          refine wp_block ?_
          refine x_seq ?_
          refine x_region ?_
          refine xseg 1 st rfl ?_
          clear st a; intro a st
          refine x_run (v := .pointer (some ⟨b4, i, none⟩)) st (r_index st rfl rfl rfl (run_indexS' (k := i) (off := i) u85 s45 (by omega) (by first | rfl | omega) _)) rfl rfl (by decide) ?_
          clear st a; intro a st
          refine x_run (v := .int .u64 (((limb (x.natAbs : Int)) i : Nat) : Int)) st (r_load st rfl rfl (run_load1 (st.at 2 rfl) u45 rfl (AF_get (by omega)))) rfl rfl (by decide) ?_
          clear st a; intro a st
          refine xseg 2 st rfl ?_
          clear st a; intro a st
          refine x_nil ?_
          refine x_seq ?_
          refine x_region ?_
          refine xseg 1 st rfl ?_
          clear st a; intro a st
          refine x_nil ?_
          refine x_seq ?_
          refine x_seq ?_
          refine x_region ?_
          refine xseg 1 st rfl ?_
          clear st a; intro a st
          refine x_run (v := .slice (some ⟨b5, 0, none⟩) (nl y) 16) st (r_slice st rfl rfl rfl rfl rfl rfl ⟨rfl, rfl⟩ (run_sliceA (k := nl y) u47 s45 (by omega) _)) rfl rfl (by decide) ?_
          clear st a; intro a st
          refine x_run (v := .int .i64 ((nl y : Nat) : Int)) st (r_len st rfl rfl u85) rfl rfl (by decide) ?_
          clear st a; intro a st
          refine xseg 1 st rfl ?_
          clear st a; intro a st
          refine x_nil ?_
          refine wp_block ?_
          refine x_loop (G := Nat) (fun k a w => ∃ g1 c, St w0 [] 118 [(2, .pointer (some ⟨b1, 0, none⟩)), (3, .pointer (some ⟨b2, 0, none⟩)), (4, .pointer (some ⟨b3, 0, none⟩)), (5, .bool false), (7, .pointer (some ⟨b5, 0, none⟩)), (8, .int .i64 ((nl x : Nat) : Int)), (9, .int .i64 ((nl y : Nat) : Int)), (10, .pointer (some ⟨b6, 0, none⟩)), (43, .slice (some ⟨b4, 0, none⟩) (nl x) 16), (44, .int .i64 ((nl x : Nat) : Int)), (45, .int .i64 ((i : Nat) : Int)), (11, .int .i64 ((i : Nat) : Int)), (12, .int .u64 (((limb (x.natAbs : Int)) i : Nat) : Int)), (13, .int .u64 ((c : Nat) : Int)), (51, .slice (some ⟨b5, 0, none⟩) (nl y) 16), (52, .int .i64 ((nl y : Nat) : Int)), (53, .int .i64 ((k : Nat) : Int))] ([(b6, .cells (AF 17 g1) 86 (0, 0)), (b5, .cells (Wd (y.natAbs : Int)) 47 (0, 0)), (b4, .cells (Wd (x.natAbs : Int)) 47 (0, 0)), (b3, .cells (Wd 0) 47 (0, 0)), (b2, .cells (Wd y) 47 (0, 0)), (b1, .cells (Wd x) 47 (0, 0))] : Hp) a w ∧ (k ≤ nl y) ∧ (∀ j, j < 17 → g1 j < BB) ∧ (∀ j, i + nl y ≤ j → j < 17 → g1 j = 0) ∧ (c < BB) ∧ (val 17 g1 + c * BB ^ (i + k) = val i (limb (x.natAbs : Int)) * y.natAbs + limb (x.natAbs : Int) i * val k (limb (y.natAbs : Int)) * BB ^ i)) (fun k => nl y - k) 0 ⟨_, 0, st.pickTo [2, 3, 4, 5, 7, 8, 9, 10, 43, 44, 45, 11, 12, 13, 51, 52, 53] (by kernel_rfl), by omega, hg, hz, by decide, (by rw [hv, Nat.zero_mul]; show _ = _ + _ * 0 * _; rw [Nat.mul_zero, Nat.zero_mul])⟩ ?_
          clear st a w; intro k a w ⟨g1, c, st, hk, hg1, hz1, hc, hv1⟩
          refine x_seq ?_
          refine x_region ?_
          refine xseg 1 st rfl ?_
          clear st a; intro a st
          refine x_nil ?_
          refine x_seq ?_
          refine x_condD st rfl (fun h13 => ?_) (fun h13 => ?_)
          · refine wp_skip ?_
            refine x_seq ?_
            refine wp_block ?_
            refine x_seq ?_
            refine x_region ?_
            refine xseg 1 st rfl ?_
            clear st a; intro a st
            refine x_run (v := .pointer (some ⟨b5, k, none⟩)) st (r_index st rfl rfl rfl (run_indexS' (k := k) (off := k) u85 s45 (by omega) (by first | rfl | omega) _)) rfl rfl (by decide) ?_
            clear st a; intro a st
            refine x_run (v := .int .u64 (((limb (y.natAbs : Int)) k : Nat) : Int)) st (r_load st rfl rfl (run_load1 (st.at 1 rfl) u45 rfl (AF_get (by omega)))) rfl rfl (by decide) ?_
            clear st a; intro a st
            refine xseg 2 st rfl ?_
            clear st a; intro a st
            refine x_nil ?_
            refine x_seq ?_
            refine x_region ?_
            refine xseg 2 st rfl ?_
            clear st a; intro a st
            refine x_call st rfl rfl ent32 rfl rfl (by decide) (Mul64_ok ((limb (x.natAbs : Int)) i) ((limb (y.natAbs : Int)) k) (by first | exact limb_lt _ _ | assumption | exact Nat.mod_lt _ (by decide) | omega) (by first | exact limb_lt _ _ | assumption | exact Nat.mod_lt _ (by decide) | omega) _) ?_
            intro a1 w1 v1 hk1 hv hn st1; subst hv
            clear hn hk1 st a w; revert st1; revert a1; revert w1; intro w a st
            refine xseg 5 st rfl ?_
            clear st a; intro a st
            refine x_nil ?_
            refine x_seq ?_
            refine x_region ?_
            refine xseg 1 st rfl ?_
            clear st a; intro a st
            refine x_nil ?_
            refine x_seq ?_
            have hgk := hg1 (i + k) (by omega)
            refine x_region ?_
            refine xseg 3 st rfl ?_
            clear st a; intro a st
            refine xp st (.int .i64 ((i + k : Nat) : Int)) rfl (wi64 (by omega) (by omega)) rfl rfl (by decide) ?_
            clear st a; intro a st
            refine x_run (v := .pointer (some ⟨b6, (i + k), none⟩)) st (r_index st rfl rfl rfl (run_indexA' (k := i + k) (off := (i + k)) u86 s45 (by omega) (by first | rfl | omega) _)) rfl rfl (by decide) ?_
            clear st a; intro a st
            refine x_run (v := .int .u64 ((g1 (i + k) : Nat) : Int)) st (r_load st rfl rfl (run_load1 (st.at 0 rfl) u45 rfl (AF_get (by omega)))) rfl rfl (by decide) ?_
            clear st a; intro a st
            refine x_run (v := .tuple #[.int .u64 (((((limb (x.natAbs : Int)) i) * ((limb (y.natAbs : Int)) k) % BB + g1 (i + k) + 0) % BB : Nat) : Int), .int .u64 (((((limb (x.natAbs : Int)) i) * ((limb (y.natAbs : Int)) k) % BB + g1 (i + k) + 0) / BB : Nat) : Int)]) st (r_extern st rfl rfl (add64 (((limb (x.natAbs : Int)) i) * ((limb (y.natAbs : Int)) k) % BB) (g1 (i + k)) 0 (by first | exact limb_lt _ _ | assumption | exact Nat.mod_lt _ (by decide) | omega) (by first | exact limb_lt _ _ | assumption | exact Nat.mod_lt _ (by decide) | omega) (by omega) _)) rfl rfl (by decide) ?_
            clear st a; intro a st
            refine xseg 1 st rfl ?_
            clear st a; intro a st
            refine xp st (.int .u64 ((((limb (x.natAbs : Int) i) * (limb (y.natAbs : Int) k) + g1 (i + k)) % BB : Nat) : Int)) rfl (ieq (ms1 _ _)) rfl rfl (by decide) ?_
            clear st a; intro a st
            refine xseg 3 st rfl ?_
            clear st a; intro a st
            refine x_nil ?_
            refine x_seq ?_
            refine x_region ?_
            refine xseg 2 st rfl ?_
            clear st a; intro a st
            refine xp st (.int .u64 ((((limb (x.natAbs : Int) i) * (limb (y.natAbs : Int) k) + g1 (i + k)) / BB : Nat) : Int)) rfl (wu64 (q64 (mul_b1 (limb_lt _ _) (limb_lt _ _) hgk)) (congrArg (fun n : Nat => (n : Int)) (ms2 ((limb (x.natAbs : Int) i) * (limb (y.natAbs : Int) k)) (g1 (i + k))))) rfl rfl (by decide) ?_
            clear st a; intro a st
            refine xseg 1 st rfl ?_
            clear st a; intro a st
            refine x_nil ?_
            refine x_seq ?_
            refine x_region ?_
            refine xseg 2 st rfl ?_
            clear st a; intro a st
            refine xp st (.int .i64 ((i + k : Nat) : Int)) rfl (wi64 (by omega) (by omega)) rfl rfl (by decide) ?_
            clear st a; intro a st
            refine xseg 2 st rfl ?_
            clear st a; intro a st
            refine x_run (v := .tuple #[.int .u64 (((((limb (x.natAbs : Int) i) * (limb (y.natAbs : Int) k) + g1 (i + k)) % BB + c + 0) % BB : Nat) : Int), .int .u64 (((((limb (x.natAbs : Int) i) * (limb (y.natAbs : Int) k) + g1 (i + k)) % BB + c + 0) / BB : Nat) : Int)]) st (r_extern st rfl rfl (add64 (((limb (x.natAbs : Int) i) * (limb (y.natAbs : Int) k) + g1 (i + k)) % BB) c 0 (by first | exact limb_lt _ _ | assumption | exact Nat.mod_lt _ (by decide) | omega) (by first | exact limb_lt _ _ | assumption | exact Nat.mod_lt _ (by decide) | omega) (by omega) _)) rfl rfl (by decide) ?_
            clear st a; intro a st
            refine xseg 1 st rfl ?_
            clear st a; intro a st
            refine xp st (.int .u64 ((((limb (x.natAbs : Int) i) * (limb (y.natAbs : Int) k) + g1 (i + k) + c) % BB : Nat) : Int)) rfl (ieq (ms3 _ _)) rfl rfl (by decide) ?_
            clear st a; intro a st
            refine xseg 1 st rfl ?_
            clear st a; intro a st
            refine x_run (v := .pointer (some ⟨b6, (i + k), none⟩)) st (r_index st rfl rfl rfl (run_indexA' (k := i + k) (off := (i + k)) u86 s45 (by omega) (by first | rfl | omega) _)) rfl rfl (by decide) ?_
            clear st a; intro a st
            refine x_store st 0 rfl rfl rfl rfl (run_store1' (st.at 0 rfl) s45 rfl (by rw [AF_size]; omega) AF_set) rfl rfl ?_
            clear st a w; intro a w st
            replace st := st.cast rfl (show _ = ([(b6, .cells (AF 17 (upd g1 (i + k) (((limb (x.natAbs : Int) i) * (limb (y.natAbs : Int) k) + g1 (i + k) + c) % BB))) 86 (0, 0)), (b5, .cells (Wd (y.natAbs : Int)) 47 (0, 0)), (b4, .cells (Wd (x.natAbs : Int)) 47 (0, 0)), (b3, .cells (Wd 0) 47 (0, 0)), (b2, .cells (Wd y) 47 (0, 0)), (b1, .cells (Wd x) 47 (0, 0))] : Hp) from rfl)
            refine xseg 1 st rfl ?_
            clear st a; intro a st
            refine x_nil ?_
            refine x_region ?_
            refine xseg 2 st rfl ?_
            clear st a; intro a st
            refine xp st (.int .u64 ((((limb (x.natAbs : Int) i) * (limb (y.natAbs : Int) k) + g1 (i + k) + c) / BB : Nat) : Int)) rfl (wu64 (q64 (mul_b2 (limb_lt _ _) (limb_lt _ _) hgk hc)) (congrArg (fun n : Nat => (n : Int)) (ms4 ((limb (x.natAbs : Int) i) * (limb (y.natAbs : Int) k) + g1 (i + k)) c))) rfl rfl (by decide) ?_
            clear st a; intro a st
            refine xseg 1 st rfl ?_
            clear st a; intro a st
            refine x_nil ?_
            refine x_region ?_
            refine xp st (.int .i64 ((k + 1 : Nat) : Int)) rfl (wi64 (by omega) (by omega)) rfl rfl (by decide) ?_
            clear st a; intro a st
            refine xseg 1 st rfl ?_
            clear st a; intro a st
            refine x_nil ?_
            exact ⟨k + 1, ⟨_, _, st.pickTo [2, 3, 4, 5, 7, 8, 9, 10, 43, 44, 45, 11, 12, 13, 51, 52, 53] (by kernel_rfl), by omega, updB hg1 (Nat.mod_lt _ (by decide)), updZ (i + nl y) hz1 (by omega), mul_b2 (limb_lt _ _) (limb_lt _ _) hgk hc, mul_step (by omega) hv1⟩, by omega⟩
          · refine wp_exit ?_
            refine x_thenExit ?_
            refine x_thenExit ?_
            refine x_inBlock ?_
            obtain rfl : k = nl y := by omega
            refine x_region ?_
            refine xseg 2 st rfl ?_
            clear st a; intro a st
            refine xp st (.int .i64 ((i + (nl y) : Nat) : Int)) rfl (wi64 (by omega) (by omega)) rfl rfl (by decide) ?_
            clear st a; intro a st
            refine xseg 1 st rfl ?_
            clear st a; intro a st
            refine x_run (v := .pointer (some ⟨b6, (i + (nl y)), none⟩)) st (r_index st rfl rfl rfl (run_indexA' (k := i + (nl y)) (off := (i + (nl y))) u86 s45 (by omega) (by first | rfl | omega) _)) rfl rfl (by decide) ?_
            clear st a; intro a st
            refine x_store st 0 rfl rfl rfl rfl (run_store1' (st.at 0 rfl) s45 rfl (by rw [AF_size]; omega) AF_set) rfl rfl ?_
            clear st a w; intro a w st
            replace st := st.cast rfl (show _ = ([(b6, .cells (AF 17 (upd g1 (i + (nl y)) c)) 86 (0, 0)), (b5, .cells (Wd (y.natAbs : Int)) 47 (0, 0)), (b4, .cells (Wd (x.natAbs : Int)) 47 (0, 0)), (b3, .cells (Wd 0) 47 (0, 0)), (b2, .cells (Wd y) 47 (0, 0)), (b1, .cells (Wd x) 47 (0, 0))] : Hp) from rfl)
            refine x_nil ?_
            refine x_region ?_
            refine xp st (.int .i64 ((i + 1 : Nat) : Int)) rfl (wi64 (by omega) (by omega)) rfl rfl (by decide) ?_
            clear st a; intro a st
            refine xseg 1 st rfl ?_
            clear st a; intro a st
            refine x_nil ?_
            exact ⟨i + 1, ⟨_, st.pickTo [2, 3, 4, 5, 7, 8, 9, 10, 43, 44, 45] (by kernel_rfl), by omega, updB hg1 hc, updZ (i + 1 + nl y) (fun j h1 h2 => hz1 j (by omega) h2) (by omega), outer_step (by omega) (hz1 _ (by omega) (by omega)) (by rw [val_nl hy] at hv1; exact hv1)⟩, by omega⟩
        · refine wp_exit ?_
          refine x_thenExit ?_
          refine x_thenExit ?_
          refine x_inBlock ?_
          refine x_seq ?_
          obtain rfl : i = nl x := by omega
          refine x_draw st [] [.det (.slice (some ⟨b6, 0, none⟩) 16 17), .det (.pointer (some ⟨b6, 0, none⟩)), .det (.agg (Wd ((val 16 g : Nat) : Int))), .det (.agg (Wd x)), .det (.bool (decide (x < 0))), .det (.agg (Wd y)), .det (.bool (decide (y < 0))), .det (.bool ((decide (x < 0)) != (decide (y < 0)))), .det (.tuple #[.agg (Wd (bif (decide (x < 0) != decide (y < 0)) then -((val 16 g : Nat) : Int) else ((val 16 g : Nat) : Int))), .bool (inRb (bif (decide (x < 0) != decide (y < 0)) then -((val 16 g : Nat) : Int) else ((val 16 g : Nat) : Int)))]), .det (.tuple #[.agg (Wd (bif (decide (x < 0) != decide (y < 0)) then -((val 16 g : Nat) : Int) else ((val 16 g : Nat) : Int))), .bool (inRb (bif (decide (x < 0) != decide (y < 0)) then -((val 16 g : Nat) : Int) else ((val 16 g : Nat) : Int)))]), .det (.agg (Wd (bif (decide (x < 0) != decide (y < 0)) then -((val 16 g : Nat) : Int) else ((val 16 g : Nat) : Int)))), .det (.bool (inRb (bif (decide (x < 0) != decide (y < 0)) then -((val 16 g : Nat) : Int) else ((val 16 g : Nat) : Int)))), .spec (.new (.cells (.agg (#[.int .u64 0, .int .u64 0, .int .u64 0, .int .u64 0, .int .u64 0, .int .u64 0, .int .u64 0, .int .u64 0, .int .u64 0, .int .u64 0, .int .u64 0, .int .u64 0, .int .u64 0, .int .u64 0, .int .u64 0, .int .u64 0]) : Value).cells 47 (0, 0))), .det undef, .det undef] mixed (by kernel_rfl)
            ⟨ob_run (Fi := [(10, .pointer (some ⟨b6, 0, none⟩))]) (by kernel_rfl) rfl rfl ⟨by kernel_rfl, trivial⟩ (fun a w st hk hxx w' => r_slice st rfl rfl rfl rfl rfl rfl ⟨rfl, rfl⟩ (run_sliceA (k := 16) u86 s45 (by decide) _)),
              ob_w (Fi := [(98, .slice (some ⟨b6, 0, none⟩) 16 17)]) (by kernel_rfl) rfl rfl ⟨by kernel_rfl, trivial⟩ (fun a w st hk hxx => r_toArr st rfl rfl u47 (by decide)),
              ob_w (Fi := [(99, .pointer (some ⟨b6, 0, none⟩))]) (by kernel_rfl) rfl rfl ⟨by kernel_rfl, trivial⟩ (fun a w st hk hxx => (by rw [← wd_val16 (by decide) hg]; exact r_load st rfl rfl (run_loadA (st.at 0 rfl) u47 rfl s47 (by rw [AF_size]; decide)))),
              ob_w (Fi := [(2, .pointer (some ⟨b1, 0, none⟩))]) (by kernel_rfl) rfl rfl ⟨by kernel_rfl, trivial⟩ (fun a w st hk hxx => r_load st rfl rfl (run_loadW (st.at 5 rfl) u47 rfl s47 (Wd_size _))),
              ob_call (Fi := [(101, .agg (Wd x))]) (by kernel_rfl) rfl ent29 rfl ⟨by kernel_rfl, trivial⟩ rfl (fun a w st hk hxx => below_ok x (by first | assumption | exact inR_64 (by first | assumption | omega)) _) (fun _ _ _ _ hp => ⟨hp, fun b hb => by cases hb⟩),
              ob_w (Fi := [(3, .pointer (some ⟨b2, 0, none⟩))]) (by kernel_rfl) rfl rfl ⟨by kernel_rfl, trivial⟩ (fun a w st hk hxx => r_load st rfl rfl (run_loadW (st.at 4 rfl) u47 rfl s47 (Wd_size _))),
              ob_call (Fi := [(103, .agg (Wd y))]) (by kernel_rfl) rfl ent29 rfl ⟨by kernel_rfl, trivial⟩ rfl (fun a w st hk hxx => below_ok y (by first | assumption | exact inR_64 (by first | assumption | omega)) _) (fun _ _ _ _ hp => ⟨hp, fun b hb => by cases hb⟩),
              ob_run (Fi := [(102, .bool (decide (x < 0))), (104, .bool (decide (y < 0)))]) (by kernel_rfl) rfl rfl ⟨by kernel_rfl, by kernel_rfl, trivial⟩ (fun a w st hk hxx w' => r_neqBool st rfl rfl rfl u4),
              ob_call (Fi := [(100, .agg (Wd ((val 16 g : Nat) : Int))), (105, .bool ((decide (x < 0)) != (decide (y < 0))))]) (by kernel_rfl) rfl ent43 rfl ⟨by kernel_rfl, by kernel_rfl, trivial⟩ rfl (fun a w st hk hxx => signed_ok (val 16 g) (val16_lt (by decide) hg) (decide (x < 0) != decide (y < 0)) _) (fun _ _ _ _ hp => ⟨hp, fun b hb => by cases hb⟩),
              ob_p (Fi := [(106, .tuple #[.agg (Wd (bif (decide (x < 0) != decide (y < 0)) then -((val 16 g : Nat) : Int) else ((val 16 g : Nat) : Int))), .bool (inRb (bif (decide (x < 0) != decide (y < 0)) then -((val 16 g : Nat) : Int) else ((val 16 g : Nat) : Int)))])]) (by kernel_rfl) rfl rfl ⟨by kernel_rfl, trivial⟩ rfl rfl,
              ob_p (Fi := [(97, .tuple #[.agg (Wd (bif (decide (x < 0) != decide (y < 0)) then -((val 16 g : Nat) : Int) else ((val 16 g : Nat) : Int))), .bool (inRb (bif (decide (x < 0) != decide (y < 0)) then -((val 16 g : Nat) : Int) else ((val 16 g : Nat) : Int)))])]) (by kernel_rfl) rfl rfl ⟨by kernel_rfl, trivial⟩ rfl rfl,
              ob_p (Fi := [(97, .tuple #[.agg (Wd (bif (decide (x < 0) != decide (y < 0)) then -((val 16 g : Nat) : Int) else ((val 16 g : Nat) : Int))), .bool (inRb (bif (decide (x < 0) != decide (y < 0)) then -((val 16 g : Nat) : Int) else ((val 16 g : Nat) : Int)))])]) (by kernel_rfl) rfl rfl ⟨by kernel_rfl, trivial⟩ rfl rfl,
              ob_alloc (by kernel_rfl) rfl z47 rfl,
              ob_store (by kernel_rfl),
              ob_store (by kernel_rfl), trivial⟩ ?_
          intro a1 w1 hk1 st1 he
          clear hk1 st a w; revert st1 he; revert a1; revert w1; intro w a st he
          replace st := st.pickTo (F' := [(2, .pointer (some ⟨b1, 0, none⟩)), (3, .pointer (some ⟨b2, 0, none⟩)), (4, .pointer (some ⟨b3, 0, none⟩)), (5, .bool false), (7, .pointer (some ⟨b5, 0, none⟩)), (8, .int .i64 ((nl x : Nat) : Int)), (9, .int .i64 ((nl y : Nat) : Int)), (10, .pointer (some ⟨b6, 0, none⟩)), (43, .slice (some ⟨b4, 0, none⟩) (nl x) 16), (44, .int .i64 ((nl x : Nat) : Int)), (45, .int .i64 ((nl x : Nat) : Int)), (46, .bool (decide (((nl x : Nat) : Int) < ((nl x : Nat) : Int)))), (107, .agg (Wd (bif (decide (x < 0) != decide (y < 0)) then -((val 16 g : Nat) : Int) else ((val 16 g : Nat) : Int)))), (108, .bool (inRb (bif (decide (x < 0) != decide (y < 0)) then -((val 16 g : Nat) : Int) else ((val 16 g : Nat) : Int))))]) [2, 3, 4, 5, 7, 8, 9, 10, 43, 44, 45, 46, 107, 108] (by kernel_rfl)
          obtain ⟨b7, heb7, hbb7, hnb7⟩ := he.new 12 rfl rfl
          replace st := (st.know heb7).add hbb7 hnb7
          replace st := st.cast rfl (show _ = ([(b7, .cells (Wd 0) 47 (0, 0)), (b6, .cells (AF 17 g) 86 (0, 0)), (b5, .cells (Wd (y.natAbs : Int)) 47 (0, 0)), (b4, .cells (Wd (x.natAbs : Int)) 47 (0, 0)), (b3, .cells (Wd 0) 47 (0, 0)), (b2, .cells (Wd y) 47 (0, 0)), (b1, .cells (Wd x) 47 (0, 0))] : Hp) from rfl)
          clear heb7 hbb7 hnb7 he
          change wpList _ _ _ [_, _] _ _
          refine x_store st 0 rfl rfl rfl rfl (run_storeW (st.at 0 rfl) (by first | exact s47 | simp only [s47, Wd_size]) (by first | rfl | simp only [Wd_size]) (AF_one _ _)) rfl rfl ?_
          clear st a w; intro a w st
          replace st := st.cast rfl (show _ = ([(b7, .cells (Wd (bif (decide (x < 0) != decide (y < 0)) then -((val 16 g : Nat) : Int) else ((val 16 g : Nat) : Int))) 47 (0, 0)), (b6, .cells (AF 17 g) 86 (0, 0)), (b5, .cells (Wd (y.natAbs : Int)) 47 (0, 0)), (b4, .cells (Wd (x.natAbs : Int)) 47 (0, 0)), (b3, .cells (Wd 0) 47 (0, 0)), (b2, .cells (Wd y) 47 (0, 0)), (b1, .cells (Wd x) 47 (0, 0))] : Hp) from rfl)
          refine xseg 1 st rfl ?_
          clear st a; intro a st
          refine x_nil ?_
          show NP _ _ _ _
          refine NP.normal ?_
          refine x_seq ?_
          refine x_seq ?_
          rcases Bool.eq_false_or_eq_true (inRb (bif (decide (x < 0) != decide (y < 0)) then -((val 16 g : Nat) : Int) else ((val 16 g : Nat) : Int))) with h4 | h4
          · skip
            refine x_region ?_
            refine xseg 1 st rfl ?_
            clear st a; intro a st
            refine xp st (.bool false) rfl (beq (by rw [h4]; rfl)) rfl rfl (by decide) ?_
            clear st a; intro a st
            refine xseg 1 st rfl ?_
            clear st a; intro a st
            refine x_unguard st (b := false) rfl rfl rfl ?_
            refine x_run (v := .pointer (some ⟨b6, 16, none⟩)) st (r_index st rfl rfl rfl (run_indexA' (k := 16) (off := 16) u86 s45 (by decide) (by first | rfl | omega) _)) rfl rfl (by decide) ?_
            clear st a; intro a st
            refine x_unguard st (b := false) rfl rfl rfl ?_
            refine x_run (v := .int .u64 ((g 16 : Nat) : Int)) st (r_load st rfl rfl (run_load1 (st.at 1 rfl) u45 rfl (AF_get (by decide)))) rfl rfl (by decide) ?_
            clear st a; intro a st
            refine x_unguard st (b := false) rfl rfl rfl ?_
            refine xseg 2 st rfl ?_
            clear st a; intro a st
            refine x_nil ?_
            refine x_condN st rfl (fun h5 => ?_) (fun h5 => ?_)
            · refine x_seq ?_
              refine x_region ?_
              refine x_run (v := .agg (Wd 0)) st (r_build0 bz47 rfl) rfl rfl (by decide) ?_
              clear st a; intro a st
              refine x_store st 4 rfl rfl rfl rfl (run_storeW (st.at 4 rfl) (by first | exact s47 | simp only [s47, Wd_size]) (by first | rfl | simp only [Wd_size]) (AF_one _ _)) rfl rfl ?_
              clear st a w; intro a w st
              replace st := st.cast rfl (show _ = ([(b7, .cells (Wd (bif (decide (x < 0) != decide (y < 0)) then -((val 16 g : Nat) : Int) else ((val 16 g : Nat) : Int))) 47 (0, 0)), (b6, .cells (AF 17 g) 86 (0, 0)), (b5, .cells (Wd (y.natAbs : Int)) 47 (0, 0)), (b4, .cells (Wd (x.natAbs : Int)) 47 (0, 0)), (b3, .cells (Wd 0) 47 (0, 0)), (b2, .cells (Wd y) 47 (0, 0)), (b1, .cells (Wd x) 47 (0, 0))] : Hp) from rfl)
              refine xseg 1 st rfl ?_
              clear st a; intro a st
              refine x_nil ?_
              refine x_wpret ?_
              refine x_thenRet ?_
              exact x_retp st [.agg (Wd 0), .bool false] rfl ⟨⟨_, rfl, run_loadW (st.at 4 rfl) u47 rfl s47 (Wd_size _)⟩, rfl, trivial⟩ rfl (mul_postN (mul_no2 hx rfl hv (by omega)))
            · refine wp_skip ?_
              refine x_seq ?_
              refine x_region ?_
              refine x_run (v := .agg (Wd (bif (decide (x < 0) != decide (y < 0)) then -((val 16 g : Nat) : Int) else ((val 16 g : Nat) : Int)))) st (r_load st rfl rfl (run_loadW (st.at 0 rfl) u47 rfl s47 (Wd_size _))) rfl rfl (by decide) ?_
              clear st a; intro a st
              refine x_store st 4 rfl rfl rfl rfl (run_storeW (st.at 4 rfl) (by first | exact s47 | simp only [s47, Wd_size]) (by first | rfl | simp only [Wd_size]) (AF_one _ _)) rfl rfl ?_
              clear st a w; intro a w st
              replace st := st.cast rfl (show _ = ([(b7, .cells (Wd (bif (decide (x < 0) != decide (y < 0)) then -((val 16 g : Nat) : Int) else ((val 16 g : Nat) : Int))) 47 (0, 0)), (b6, .cells (AF 17 g) 86 (0, 0)), (b5, .cells (Wd (y.natAbs : Int)) 47 (0, 0)), (b4, .cells (Wd (x.natAbs : Int)) 47 (0, 0)), (b3, .cells (Wd (bif (decide (x < 0) != decide (y < 0)) then -((val 16 g : Nat) : Int) else ((val 16 g : Nat) : Int))) 47 (0, 0)), (b2, .cells (Wd y) 47 (0, 0)), (b1, .cells (Wd x) 47 (0, 0))] : Hp) from rfl)
              refine xseg 1 st rfl ?_
              clear st a; intro a st
              refine x_nil ?_
              refine x_wpret ?_
              exact x_retp st [.agg (Wd (bif (decide (x < 0) != decide (y < 0)) then -((val 16 g : Nat) : Int) else ((val 16 g : Nat) : Int))), .bool true] rfl ⟨⟨_, rfl, run_loadW (st.at 4 rfl) u47 rfl s47 (Wd_size _)⟩, rfl, trivial⟩ rfl (mul_yes hx rfl hv (by omega) h4)
          · skip
            refine x_region ?_
            refine xseg 1 st rfl ?_
            clear st a; intro a st
            refine xp st (.bool true) rfl (beq (by rw [h4]; rfl)) rfl rfl (by decide) ?_
            clear st a; intro a st
            refine xseg 1 st rfl ?_
            clear st a; intro a st
            refine x_skip st (b := false) (c := true) rfl rfl rfl (by decide) rfl (by decide) ?_
            clear st a; intro a st
            refine x_skip st (b := false) (c := true) rfl rfl rfl (by decide) rfl (by decide) ?_
            clear st a; intro a st
            refine x_skip st (b := false) (c := true) rfl rfl rfl (by decide) rfl (by decide) ?_
            clear st a; intro a st
            refine xseg 1 st rfl ?_
            clear st a; intro a st
            refine x_nil ?_
            refine x_condT st rfl ?_
            refine x_seq ?_
            refine x_region ?_
            refine x_run (v := .agg (Wd 0)) st (r_build0 bz47 rfl) rfl rfl (by decide) ?_
            clear st a; intro a st
            refine x_store st 4 rfl rfl rfl rfl (run_storeW (st.at 4 rfl) (by first | exact s47 | simp only [s47, Wd_size]) (by first | rfl | simp only [Wd_size]) (AF_one _ _)) rfl rfl ?_
            clear st a w; intro a w st
            replace st := st.cast rfl (show _ = ([(b7, .cells (Wd (bif (decide (x < 0) != decide (y < 0)) then -((val 16 g : Nat) : Int) else ((val 16 g : Nat) : Int))) 47 (0, 0)), (b6, .cells (AF 17 g) 86 (0, 0)), (b5, .cells (Wd (y.natAbs : Int)) 47 (0, 0)), (b4, .cells (Wd (x.natAbs : Int)) 47 (0, 0)), (b3, .cells (Wd 0) 47 (0, 0)), (b2, .cells (Wd y) 47 (0, 0)), (b1, .cells (Wd x) 47 (0, 0))] : Hp) from rfl)
            refine xseg 1 st rfl ?_
            clear st a; intro a st
            refine x_nil ?_
            refine x_wpret ?_
            refine x_thenRet ?_
            exact x_retp st [.agg (Wd 0), .bool false] rfl ⟨⟨_, rfl, run_loadW (st.at 4 rfl) u47 rfl s47 (Wd_size _)⟩, rfl, trivial⟩ rfl (mul_postN (mul_no1 hx rfl hv h4))

end Go.Proofs.YtnkbhmonceiocaaDoor
