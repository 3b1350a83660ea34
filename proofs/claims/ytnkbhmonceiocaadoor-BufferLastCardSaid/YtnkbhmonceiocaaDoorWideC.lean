/-
  The package wide of the program: count, signed: what they return, for every number.
-/
import Derived.Test.YtnkbhmonceiocaaDoorWideB
import Derived.Test.YtnkbhmonceiocaaDoorShelf
namespace Go.Proofs.YtnkbhmonceiocaaDoor
open Go Go.RowKit
namespace FWideC
theorem bz47 (w : World) : (Instr.build 47 #[]).run Tryd.prog w = .ok (.agg (Wd 0)) w := by kernel_rfl
theorem ent29 (args : Array Value) (w : World) : (callFunc 29 args).run Tryd.prog w = .ok (.enter 29 args) w := enters_at Tryd.func29 (by kernel_rfl) rfl args w
theorem ent56 (args : Array Value) (w : World) : (callFunc 56 args).run Tryd.prog w = .ok (.enter 56 args) w := enters_at Tryd.func56 (by kernel_rfl) rfl args w
theorem mixed : Tryd.prog.follows .mixedOrders = true := by kernel_rfl
theorem q47 : Tryd.prog.eqGuardType Tryd.prog.depth 47 = false := by kernel_rfl
theorem s45 : (Tryd.prog.info? 45).map (·.size) = some 1 := by kernel_rfl
theorem s47 : (Tryd.prog.info? 47).map (·.size) = some 16 := by kernel_rfl
theorem u45 : Tryd.prog.underlying 45 = some (.int .u64) := by kernel_rfl
theorem u47 : Tryd.prog.underlying 47 = some (.array 16 45) := by kernel_rfl
theorem u85 : Tryd.prog.underlying 85 = some (.slice 45) := by kernel_rfl
theorem z47 : (Tryd.prog.info? 47).bind (·.zero) = some (.agg (#[.int .u64 0, .int .u64 0, .int .u64 0, .int .u64 0, .int .u64 0, .int .u64 0, .int .u64 0, .int .u64 0, .int .u64 0, .int .u64 0, .int .u64 0, .int .u64 0, .int .u64 0, .int .u64 0, .int .u64 0, .int .u64 0])) := by kernel_rfl
end FWideC
open FWideC
set_option maxRecDepth 20000 in
set_option maxHeartbeats 1000000 in
theorem count_ok {w0 : World} (b n cap m : Nat) (g : Nat → Nat) (e : TypeId) (fz : Nat × Nat) (hn : n ≤ m) (hm : n < 9223372036854775808) (hb : Hid (w0.heap[b]? = some (.cells (AF m g) e fz)))  :
    Fn Tryd.prog 42 [.slice (some ⟨b, 0, none⟩) n cap] w0 [] (fun v _ => v = .int .i64 ((lcnt n g : Nat) : Int)) := by
  refine x_enter' (n := 19) Tryd.func42 rfl rfl (Nat.le_of_ble_eq_true rfl) fun a w st => ?_
  refine x_seq ?_
  refine x_region ?_
  refine xseg 1 st rfl ?_
  clear st a; intro a st
  refine x_nil ?_
  refine x_seq ?_
  refine x_region ?_
  refine xseg 1 st rfl ?_
  clear st a; intro a st
  refine x_run (v := .int .i64 ((n : Nat) : Int)) st (r_len st rfl rfl u85) rfl rfl (by decide) ?_
  clear st a; intro a st
  refine xseg 1 st rfl ?_
  clear st a; intro a st
  refine x_nil ?_
  refine x_seq ?_
  refine wp_block ?_
  refine x_loop (G := Nat) (fun k a w => St w0 [] 19 [(0, .slice (some ⟨b, 0, none⟩) n cap), (2, .int .i64 0), (3, .int .i64 ((k : Nat) : Int))] ([] : Hp) a w ∧ (k ≤ n) ∧ (lcnt n g = lcnt k g)) (fun k => k) n ⟨st.pickTo [0, 2, 3] (by kernel_rfl), Nat.le_refl _, rfl⟩ ?_
  clear st a w; intro k a w ⟨st, hk, hg⟩
  refine x_seq ?_
  refine x_seq ?_
  rcases Nat.eq_zero_or_pos k with h1 | h1
  · skip
    refine x_region ?_
    refine xseg 1 st rfl ?_
    clear st a; intro a st
    refine xp st (.bool false) rfl (beq (decide_eq_false (by omega))) rfl rfl (by decide) ?_
    clear st a; intro a st
    refine xseg 1 st rfl ?_
    clear st a; intro a st
    refine x_skip st (b := true) (c := false) rfl rfl rfl (by decide) rfl (by decide) ?_
    clear st a; intro a st
    refine x_skip st (b := true) (c := false) rfl rfl rfl (by decide) rfl (by decide) ?_
    clear st a; intro a st
    refine x_skip st (b := true) (c := false) rfl rfl rfl (by decide) rfl (by decide) ?_
    clear st a; intro a st
    refine x_skip st (b := true) (c := false) rfl rfl rfl (by decide) rfl (by decide) ?_
    clear st a; intro a st
    refine x_skip st (b := true) (c := false) rfl rfl rfl (by decide) rfl (by decide) ?_
    clear st a; intro a st
    refine x_skip st (b := true) (c := false) rfl rfl rfl (by decide) rfl (by decide) ?_
    clear st a; intro a st
    refine xseg 1 st rfl ?_
    clear st a; intro a st
    refine x_nil ?_
    refine x_condF st rfl ?_
    refine wp_exit ?_
    refine x_thenExit ?_
    refine x_thenExit ?_
    refine x_inBlock ?_
    refine x_seq ?_
    refine x_region ?_
    refine xseg 2 st rfl ?_
    clear st a; intro a st
    refine x_nil ?_
    refine x_wpret ?_
    exact x_retp st [.int .i64 ((k : Nat) : Int)] rfl ⟨rfl, trivial⟩ rfl (ieq (by rw [hg, h1]; rfl))
  · skip
    refine x_region ?_
    refine xseg 1 st rfl ?_
    clear st a; intro a st
    refine xp st (.bool true) rfl (beq (decide_eq_true (by omega))) rfl rfl (by decide) ?_
    clear st a; intro a st
    refine xseg 1 st rfl ?_
    clear st a; intro a st
    refine x_unguard st (b := true) rfl rfl rfl ?_
    refine xseg 1 st rfl ?_
    clear st a; intro a st
    refine x_unguard st (b := true) rfl rfl rfl ?_
    refine xseg 1 st rfl ?_
    clear st a; intro a st
    refine x_unguard st (b := true) rfl rfl rfl ?_
    refine xp st (.int .i64 ((k - 1 : Nat) : Int)) rfl (wi64 (by omega) (by omega)) rfl rfl (by decide) ?_
    clear st a; intro a st
    refine x_unguard st (b := true) rfl rfl rfl ?_
    refine x_run (v := .pointer (some ⟨b, (k - 1), none⟩)) st (r_index st rfl rfl rfl (run_indexS' (k := k - 1) (off := (k - 1)) u85 s45 (by omega) (by first | rfl | omega) _)) rfl rfl (by decide) ?_
    clear st a; intro a st
    refine x_unguard st (b := true) rfl rfl rfl ?_
    refine x_run (v := .int .u64 ((g (k - 1) : Nat) : Int)) st (r_load st rfl rfl (run_load1 (st.old hb.out (by simp)) u45 rfl (AF_get (by omega)))) rfl rfl (by decide) ?_
    clear st a; intro a st
    refine x_unguard st (b := true) rfl rfl rfl ?_
    refine xseg 2 st rfl ?_
    clear st a; intro a st
    refine x_nil ?_
    refine x_condE st rfl (fun h0 => ?_) (fun h0 => ?_)
    · refine wp_skip ?_
      refine wp_block ?_
      refine x_region ?_
      refine xseg 1 st rfl ?_
      clear st a; intro a st
      refine xp st (.int .i64 ((k - 1 : Nat) : Int)) rfl (wi64 (by omega) (by omega)) rfl rfl (by decide) ?_
      clear st a; intro a st
      refine xseg 1 st rfl ?_
      clear st a; intro a st
      refine x_nil ?_
      exact ⟨k - 1, ⟨st.pickTo [0, 2, 3] (by kernel_rfl), by omega, by rw [hg]; exact lcnt_down h0 (by omega)⟩, by omega⟩
    · refine wp_exit ?_
      refine x_thenExit ?_
      refine x_thenExit ?_
      refine x_inBlock ?_
      refine x_seq ?_
      refine x_region ?_
      refine xseg 2 st rfl ?_
      clear st a; intro a st
      refine x_nil ?_
      refine x_wpret ?_
      exact x_retp st [.int .i64 ((k : Nat) : Int)] rfl ⟨rfl, trivial⟩ rfl (ieq (by rw [hg, lcnt_here (by omega) h0]))

set_option maxRecDepth 20000 in
set_option maxHeartbeats 1000000 in
theorem signed_t  (x : Nat) (hx : x < BB ^ 16) (w0 : World) :
    Fn Tryd.prog 43 [.agg (Wd (x : Int)), .bool true] w0 [] (fun v _ => v = .tuple #[.agg (Wd (-(x : Int))), .bool (inRb (-(x : Int)))]) := by
  refine x_enter' (n := 21) Tryd.func43 rfl rfl (Nat.le_of_ble_eq_true rfl) fun a w st => ?_
  refine x_seq ?_
  refine x_region ?_
  refine x_box st rfl rfl rfl rfl (by decide) ?_
  clear st a; intro a w b1 st
  refine x_alloc st rfl z47 rfl rfl (by decide) ?_
  clear st a; intro a w b2 st
  replace st := st.cast rfl (show _ = ([(b2, .cells (Wd 0) 47 (0, 0)), (b1, .cells (Wd (x : Int)) 47 (0, 0))] : Hp) from rfl)
  refine xseg 1 st rfl ?_
  clear st a; intro a st
  refine x_nil ?_
  refine x_seq ?_
  refine x_seq ?_
  refine x_region ?_
  refine xseg 1 st rfl ?_
  clear st a; intro a st
  refine x_nil ?_
  refine x_condT st rfl ?_
  refine x_seq ?_
  refine x_region ?_
  refine x_run (v := .agg (Wd (x : Int))) st (r_load st rfl rfl (run_loadW (st.at 1 rfl) u47 rfl s47 (Wd_size _))) rfl rfl (by decide) ?_
  clear st a; intro a st
  refine x_call st rfl rfl ent56 rfl rfl (by decide) (Neg_ok (x : Int) _) ?_
  intro a1 w1 v1 hk1 hv hn st1; subst hv
  clear hn hk1 st a w; revert st1; revert a1; revert w1; intro w a st
  refine x_store st 1 rfl rfl rfl rfl (run_storeW (st.at 1 rfl) (by first | exact s47 | simp only [s47, Wd_size]) (by first | rfl | simp only [Wd_size]) (AF_one _ _)) rfl rfl ?_
  clear st a w; intro a w st
  replace st := st.cast rfl (show _ = ([(b2, .cells (Wd 0) 47 (0, 0)), (b1, .cells (Wd (-(x : Int))) 47 (0, 0))] : Hp) from rfl)
  refine x_nil ?_
  replace st := st.cast rfl (show _ = ([(b2, .cells (Wd 0) 47 (0, 0)), (b1, .cells (Wd (nrm (-(x : Int)))) 47 (0, 0))] : Hp) from by rw [Wd_nrm])
  have hin := nrm_in (-(x : Int))
  refine x_seq ?_
  rcases Bool.eq_false_or_eq_true (decide (nrm (-(x : Int)) < 0)) with h1 | h1
  · skip
    refine x_drawE (HB := ([(b2, .cells (Wd 0) 47 (0, 0))] : Hp)) (H := ([(b1, .cells (Wd (nrm (-(x : Int)))) 47 (0, 0))] : Hp)) st [] [⟨8, 4, 9, 0, .inr 0, 47, 16⟩] [.det (.agg (Wd (nrm (-(x : Int))))), .det (.agg (Wd (nrm (-(x : Int))))), .det (.bool (decide ((nrm (-(x : Int))) < 0))), .det (.bool true), .det undef, .det undef, .det undef, .det (.bool true), .det undef, .det (.bool true)] mixed (by kernel_rfl) (by kernel_rfl) ⟨⟨s47, fun v w h => ⟨Wd (nrm (-(x : Int))), h, (Wd_size _), (AF_one _ _)⟩, ⟨_, _, rfl, rfl, (Wd_size _)⟩⟩, trivial⟩
      ⟨ob_w (Fi := [(2, .pointer (some ⟨b1, 0, none⟩))]) (by kernel_rfl) rfl rfl ⟨by kernel_rfl, trivial⟩ (fun a w st hk hxx => r_load st rfl rfl (run_loadW (st.at 0 rfl) u47 rfl s47 (Wd_size _))),
        ob_w (Fi := [(2, .pointer (some ⟨b1, 0, none⟩))]) (by kernel_rfl) rfl rfl ⟨by kernel_rfl, trivial⟩ (fun a w st hk hxx => r_load st rfl rfl (run_loadW (st.at 0 rfl) u47 rfl s47 (Wd_size _))),
        ob_call (Fi := [(10, .agg (Wd (nrm (-(x : Int)))))]) (by kernel_rfl) rfl ent29 rfl ⟨by kernel_rfl, trivial⟩ rfl (fun a w st hk hxx => below_ok (nrm (-(x : Int))) (by first | assumption | exact inR_64 (by first | assumption | omega)) _) (fun _ _ _ _ hp => ⟨hp, fun b hb => by cases hb⟩),
        ob_p (Fi := [(11, .bool (decide ((nrm (-(x : Int))) < 0)))]) (by kernel_rfl) rfl rfl ⟨by kernel_rfl, trivial⟩ rfl (beq h1),
        ob_skip (c := true) (b := false) (by kernel_rfl) rfl rfl (by kernel_rfl) rfl,
        ob_skip (c := true) (b := false) (by kernel_rfl) rfl rfl (by kernel_rfl) rfl,
        ob_skip (c := true) (b := false) (by kernel_rfl) rfl rfl (by kernel_rfl) rfl,
        ob_p (Fi := [(12, .bool true), (15, undef)]) (by kernel_rfl) rfl rfl ⟨by kernel_rfl, by kernel_rfl, trivial⟩ rfl rfl,
        ob_store (by kernel_rfl),
        ob_p (Fi := [(16, .bool true)]) (by kernel_rfl) rfl rfl ⟨by kernel_rfl, trivial⟩ rfl rfl, trivial⟩ ?_
    intro a1 w1 hk1 st1 he hput hback
    clear hk1 st a w; revert st1 he hput hback; revert a1; revert w1; intro w a st he hput hback
    replace st := hback ([(b2, .cells (Wd (nrm (-(x : Int)))) 47 (0, 0))] : Hp) (by simp only [List.map_cons, List.map_nil]) (all1 ((hput ⟨8, 4, 9, 0, .inr 0, 47, 16⟩ (List.mem_of_getElem? (i := 0) rfl)).at (b := b2) (C := Wd (nrm (-(x : Int)))) st rfl rfl) (all0))
    replace st := st.cast rfl (show _ = ([(b2, .cells (Wd (nrm (-(x : Int)))) 47 (0, 0)), (b1, .cells (Wd (nrm (-(x : Int)))) 47 (0, 0))] : Hp) from rfl)
    clear hput hback
    replace st := st.pickTo (F' := [(0, .agg (Wd (x : Int))), (1, .bool true), (2, .pointer (some ⟨b1, 0, none⟩)), (4, .pointer (some ⟨b2, 0, none⟩)), (5, .bool true), (6, .bool true), (7, .agg (Wd (x : Int))), (8, .agg (Wd (-(x : Int))))]) [0, 1, 2, 4, 5, 6, 7, 8] (by kernel_rfl)
    clear he
    change wpList _ _ _ [] _ _
    refine x_nil ?_
    show NP _ _ _ _
    refine NP.normal ?_
    refine x_wpret ?_
    refine x_thenRet ?_
    exact x_retp st [.agg (Wd (nrm (-(x : Int)))), .bool true] rfl ⟨⟨_, rfl, run_loadW (st.at 0 rfl) u47 rfl s47 (Wd_size _)⟩, rfl, trivial⟩ rfl (signed_post_t hx h1)
  · skip
    refine x_drawE (HB := ([(b2, .cells (Wd 0) 47 (0, 0))] : Hp)) (H := ([(b1, .cells (Wd (nrm (-(x : Int)))) 47 (0, 0))] : Hp)) st [] [⟨8, 4, 9, 0, .inr 0, 47, 16⟩] [.det (.agg (Wd (nrm (-(x : Int))))), .det (.agg (Wd (nrm (-(x : Int))))), .det (.bool (decide ((nrm (-(x : Int))) < 0))), .det (.bool false), .det (.agg (Wd (nrm (-(x : Int))))), .det (.agg (Wd 0)), .det (.bool (decide (nrm (-(x : Int)) = 0))), .det (.bool (decide (nrm (-(x : Int)) = 0))), .det undef, .det (.bool (decide (nrm (-(x : Int)) = 0)))] mixed (by kernel_rfl) (by kernel_rfl) ⟨⟨s47, fun v w h => ⟨Wd (nrm (-(x : Int))), h, (Wd_size _), (AF_one _ _)⟩, ⟨_, _, rfl, rfl, (Wd_size _)⟩⟩, trivial⟩
      ⟨ob_w (Fi := [(2, .pointer (some ⟨b1, 0, none⟩))]) (by kernel_rfl) rfl rfl ⟨by kernel_rfl, trivial⟩ (fun a w st hk hxx => r_load st rfl rfl (run_loadW (st.at 0 rfl) u47 rfl s47 (Wd_size _))),
        ob_w (Fi := [(2, .pointer (some ⟨b1, 0, none⟩))]) (by kernel_rfl) rfl rfl ⟨by kernel_rfl, trivial⟩ (fun a w st hk hxx => r_load st rfl rfl (run_loadW (st.at 0 rfl) u47 rfl s47 (Wd_size _))),
        ob_call (Fi := [(10, .agg (Wd (nrm (-(x : Int)))))]) (by kernel_rfl) rfl ent29 rfl ⟨by kernel_rfl, trivial⟩ rfl (fun a w st hk hxx => below_ok (nrm (-(x : Int))) (by first | assumption | exact inR_64 (by first | assumption | omega)) _) (fun _ _ _ _ hp => ⟨hp, fun b hb => by cases hb⟩),
        ob_p (Fi := [(11, .bool (decide ((nrm (-(x : Int))) < 0)))]) (by kernel_rfl) rfl rfl ⟨by kernel_rfl, trivial⟩ rfl (beq h1),
        ob_guard (u := .agg (Wd (nrm (-(x : Int))))) (c := false) (b := false) (by kernel_rfl) rfl rfl (by kernel_rfl) (by first | rfl | simp) (ob_w (Fi := [(2, .pointer (some ⟨b1, 0, none⟩))]) (by kernel_rfl) rfl rfl ⟨by kernel_rfl, trivial⟩ (fun a w st hk hxx => r_load st rfl rfl (run_loadW (st.at 0 rfl) u47 rfl s47 (Wd_size _)))),
        ob_guard (u := .agg (Wd 0)) (c := false) (b := false) (by kernel_rfl) rfl rfl (by kernel_rfl) (by first | rfl | simp) (ob_run (Fi := []) (by kernel_rfl) rfl rfl trivial (fun a w st hk hxx w' => r_build0 bz47 rfl)),
        ob_guard (u := .bool (decide (nrm (-(x : Int)) = 0))) (c := false) (b := false) (by kernel_rfl) rfl rfl (by kernel_rfl) (by first | rfl | simp) (ob_run (Fi := [(13, .agg (Wd (nrm (-(x : Int))))), (14, .agg (Wd 0))]) (by kernel_rfl) rfl rfl ⟨by kernel_rfl, by kernel_rfl, trivial⟩ (fun a w st hk hxx w' => (by rw [show (.bool (decide (nrm (-(x : Int)) = 0)) : Value) = .bool (eqRow 16 (limb (nrm (-(x : Int)))) (limb 0)) from (beq (eqRow_Wd hin (inR_64 (by omega))).symm)]; exact r_eqRow (neq := false) (g := limb (nrm (-(x : Int)))) (h := limb 0) st rfl rfl rfl u47 u45 s45 q47))),
        ob_p (Fi := [(12, .bool false), (15, .bool (decide (nrm (-(x : Int)) = 0)))]) (by kernel_rfl) rfl rfl ⟨by kernel_rfl, by kernel_rfl, trivial⟩ rfl rfl,
        ob_store (by kernel_rfl),
        ob_p (Fi := [(16, .bool (decide (nrm (-(x : Int)) = 0)))]) (by kernel_rfl) rfl rfl ⟨by kernel_rfl, trivial⟩ rfl rfl, trivial⟩ ?_
    intro a1 w1 hk1 st1 he hput hback
    clear hk1 st a w; revert st1 he hput hback; revert a1; revert w1; intro w a st he hput hback
    replace st := hback ([(b2, .cells (Wd (nrm (-(x : Int)))) 47 (0, 0))] : Hp) (by simp only [List.map_cons, List.map_nil]) (all1 ((hput ⟨8, 4, 9, 0, .inr 0, 47, 16⟩ (List.mem_of_getElem? (i := 0) rfl)).at (b := b2) (C := Wd (nrm (-(x : Int)))) st rfl rfl) (all0))
    replace st := st.cast rfl (show _ = ([(b2, .cells (Wd (nrm (-(x : Int)))) 47 (0, 0)), (b1, .cells (Wd (nrm (-(x : Int)))) 47 (0, 0))] : Hp) from rfl)
    clear hput hback
    replace st := st.pickTo (F' := [(0, .agg (Wd (x : Int))), (1, .bool true), (2, .pointer (some ⟨b1, 0, none⟩)), (4, .pointer (some ⟨b2, 0, none⟩)), (5, .bool (decide (nrm (-(x : Int)) = 0))), (6, .bool true), (7, .agg (Wd (x : Int))), (8, .agg (Wd (-(x : Int))))]) [0, 1, 2, 4, 5, 6, 7, 8] (by kernel_rfl)
    clear he
    change wpList _ _ _ [] _ _
    refine x_nil ?_
    show NP _ _ _ _
    refine NP.normal ?_
    refine x_wpret ?_
    refine x_thenRet ?_
    exact x_retp st [.agg (Wd (nrm (-(x : Int)))), .bool (decide (nrm (-(x : Int)) = 0))] rfl ⟨⟨_, rfl, run_loadW (st.at 0 rfl) u47 rfl s47 (Wd_size _)⟩, rfl, trivial⟩ rfl (signed_post_f hx h1)

set_option maxRecDepth 20000 in
set_option maxHeartbeats 1000000 in
theorem signed_f  (x : Nat) (hx : x < BB ^ 16) (w0 : World) :
    Fn Tryd.prog 43 [.agg (Wd (x : Int)), .bool false] w0 [] (fun v _ => v = .tuple #[.agg (Wd (x : Int)), .bool (inRb (x : Int))]) := by
  refine x_enter' (n := 21) Tryd.func43 rfl rfl (Nat.le_of_ble_eq_true rfl) fun a w st => ?_
  refine x_seq ?_
  refine x_region ?_
  refine x_box st rfl rfl rfl rfl (by decide) ?_
  clear st a; intro a w b1 st
  refine x_alloc st rfl z47 rfl rfl (by decide) ?_
  clear st a; intro a w b2 st
  replace st := st.cast rfl (show _ = ([(b2, .cells (Wd 0) 47 (0, 0)), (b1, .cells (Wd (x : Int)) 47 (0, 0))] : Hp) from rfl)
  refine xseg 1 st rfl ?_
  clear st a; intro a st
  refine x_nil ?_
  refine x_seq ?_
  refine x_seq ?_
  refine x_region ?_
  refine xseg 1 st rfl ?_
  clear st a; intro a st
  refine x_nil ?_
  replace st := st.cast rfl (show _ = ([(b2, .cells (Wd 0) 47 (0, 0)), (b1, .cells (Wd (nrm (x : Int))) 47 (0, 0))] : Hp) from by rw [Wd_nrm])
  have hin := nrm_in (x : Int)
  refine x_condF st rfl ?_
  refine wp_skip ?_
  refine x_seq ?_
  refine x_drawE (HB := ([(b2, .cells (Wd 0) 47 (0, 0))] : Hp)) (H := ([(b1, .cells (Wd (nrm (x : Int))) 47 (0, 0))] : Hp)) st [] [⟨4, 4, 17, 0, .inr 0, 47, 16⟩] [.det (.agg (Wd (nrm (x : Int)))), .det (.agg (Wd (nrm (x : Int)))), .det (.bool (decide ((nrm (x : Int)) < 0))), .det (.bool (!(decide ((nrm (x : Int)) < 0)))), .det undef, .det (.bool (!(decide ((nrm (x : Int)) < 0))))] mixed (by kernel_rfl) (by kernel_rfl) ⟨⟨s47, fun v w h => ⟨Wd (nrm (x : Int)), h, (Wd_size _), (AF_one _ _)⟩, ⟨_, _, rfl, rfl, (Wd_size _)⟩⟩, trivial⟩
    ⟨ob_w (Fi := [(2, .pointer (some ⟨b1, 0, none⟩))]) (by kernel_rfl) rfl rfl ⟨by kernel_rfl, trivial⟩ (fun a w st hk hxx => r_load st rfl rfl (run_loadW (st.at 0 rfl) u47 rfl s47 (Wd_size _))),
      ob_w (Fi := [(2, .pointer (some ⟨b1, 0, none⟩))]) (by kernel_rfl) rfl rfl ⟨by kernel_rfl, trivial⟩ (fun a w st hk hxx => r_load st rfl rfl (run_loadW (st.at 0 rfl) u47 rfl s47 (Wd_size _))),
      ob_call (Fi := [(18, .agg (Wd (nrm (x : Int))))]) (by kernel_rfl) rfl ent29 rfl ⟨by kernel_rfl, trivial⟩ rfl (fun a w st hk hxx => below_ok (nrm (x : Int)) (by first | assumption | exact inR_64 (by first | assumption | omega)) _) (fun _ _ _ _ hp => ⟨hp, fun b hb => by cases hb⟩),
      ob_p (Fi := [(19, .bool (decide ((nrm (x : Int)) < 0)))]) (by kernel_rfl) rfl rfl ⟨by kernel_rfl, trivial⟩ rfl rfl,
      ob_store (by kernel_rfl),
      ob_p (Fi := [(20, .bool (!(decide ((nrm (x : Int)) < 0))))]) (by kernel_rfl) rfl rfl ⟨by kernel_rfl, trivial⟩ rfl rfl, trivial⟩ ?_
  intro a1 w1 hk1 st1 he hput hback
  clear hk1 st a w; revert st1 he hput hback; revert a1; revert w1; intro w a st he hput hback
  replace st := hback ([(b2, .cells (Wd (nrm (x : Int))) 47 (0, 0))] : Hp) (by simp only [List.map_cons, List.map_nil]) (all1 ((hput ⟨4, 4, 17, 0, .inr 0, 47, 16⟩ (List.mem_of_getElem? (i := 0) rfl)).at (b := b2) (C := Wd (nrm (x : Int))) st rfl rfl) (all0))
  replace st := st.cast rfl (show _ = ([(b2, .cells (Wd (nrm (x : Int))) 47 (0, 0)), (b1, .cells (Wd (nrm (x : Int))) 47 (0, 0))] : Hp) from rfl)
  clear hput hback
  replace st := st.pickTo (F' := [(0, .agg (Wd (x : Int))), (1, .bool false), (2, .pointer (some ⟨b1, 0, none⟩)), (4, .pointer (some ⟨b2, 0, none⟩)), (5, .bool (!(decide ((nrm (x : Int)) < 0)))), (6, .bool false)]) [0, 1, 2, 4, 5, 6] (by kernel_rfl)
  clear he
  change wpList _ _ _ [] _ _
  refine x_nil ?_
  show NP _ _ _ _
  refine NP.normal ?_
  refine x_wpret ?_
  exact x_retp st [.agg (Wd (nrm (x : Int))), .bool (!(decide ((nrm (x : Int)) < 0)))] rfl ⟨⟨_, rfl, run_loadW (st.at 0 rfl) u47 rfl s47 (Wd_size _)⟩, rfl, trivial⟩ rfl (signed_post hx)

theorem signed_ok (x : Nat) (hx : x < BB ^ 16) (m : Bool) (w0 : World) : Fn Tryd.prog 43 [.agg (Wd (x : Int)), .bool m] w0 [] (fun v _ => v = .tuple #[.agg (Wd (bif m then -(x : Int) else x)), .bool (inRb (bif m then -(x : Int) else x))]) := by
  cases m
  · exact signed_f x hx w0
  · exact signed_t x hx w0
theorem Mul64_ok (x y : Nat) (hx : x < BB) (hy : y < BB) (w0 : World) : Fn Tryd.prog 32 [.int .u64 (x : Nat), .int .u64 (y : Nat)] w0 [] (fun v _ => v = .tuple #[.int .u64 ((x * y / BB : Nat) : Int), .int .u64 ((x * y % BB : Nat) : Int)]) :=
  Calls.mono (Tryd.bits_Mul64 x y hx hy w0) fun e w' h => by obtain ⟨rfl, rfl⟩ := h; exact ⟨Keeps.refl _ _, rfl⟩

end Go.Proofs.YtnkbhmonceiocaaDoor
