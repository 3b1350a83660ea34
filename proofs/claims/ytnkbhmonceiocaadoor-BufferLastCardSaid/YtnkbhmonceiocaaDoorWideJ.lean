/-
  The package wide of the program: divide: two amounts, the quotient and the rest.
-/
import Derived.Test.YtnkbhmonceiocaaDoorWideI
namespace Go.Proofs.YtnkbhmonceiocaaDoor
open Go Go.RowKit
namespace FWideJ
theorem bz47 (w : World) : (Instr.build 47 #[]).run Tryd.prog w = .ok (.agg (Wd 0)) w := by kernel_rfl
theorem ent42 (args : Array Value) (w : World) : (callFunc 42 args).run Tryd.prog w = .ok (.enter 42 args) w := enters_at Tryd.func42 (by kernel_rfl) rfl args w
theorem ent63 (args : Array Value) (w : World) : (callFunc 63 args).run Tryd.prog w = .ok (.enter 63 args) w := enters_at Tryd.func63 (by kernel_rfl) rfl args w
theorem ent64 (args : Array Value) (w : World) : (callFunc 64 args).run Tryd.prog w = .ok (.enter 64 args) w := enters_at Tryd.func64 (by kernel_rfl) rfl args w
theorem ent65 (args : Array Value) (w : World) : (callFunc 65 args).run Tryd.prog w = .ok (.enter 65 args) w := enters_at Tryd.func65 (by kernel_rfl) rfl args w
theorem ent66 (args : Array Value) (w : World) : (callFunc 66 args).run Tryd.prog w = .ok (.enter 66 args) w := enters_at Tryd.func66 (by kernel_rfl) rfl args w
theorem ent67 (args : Array Value) (w : World) : (callFunc 67 args).run Tryd.prog w = .ok (.enter 67 args) w := enters_at Tryd.func67 (by kernel_rfl) rfl args w
theorem mixed : Tryd.prog.follows .mixedOrders = true := by kernel_rfl
theorem s45 : (Tryd.prog.info? 45).map (·.size) = some 1 := by kernel_rfl
theorem s47 : (Tryd.prog.info? 47).map (·.size) = some 16 := by kernel_rfl
theorem u3 : Tryd.prog.underlying 3 = some (.int .i64) := by kernel_rfl
theorem u45 : Tryd.prog.underlying 45 = some (.int .u64) := by kernel_rfl
theorem u47 : Tryd.prog.underlying 47 = some (.array 16 45) := by kernel_rfl
theorem u68 : Tryd.prog.underlying 68 = some (.int .u64) := by kernel_rfl
theorem u85 : Tryd.prog.underlying 85 = some (.slice 45) := by kernel_rfl
theorem z47 : (Tryd.prog.info? 47).bind (·.zero) = some (.agg (#[.int .u64 0, .int .u64 0, .int .u64 0, .int .u64 0, .int .u64 0, .int .u64 0, .int .u64 0, .int .u64 0, .int .u64 0, .int .u64 0, .int .u64 0, .int .u64 0, .int .u64 0, .int .u64 0, .int .u64 0, .int .u64 0])) := by kernel_rfl
end FWideJ
open FWideJ
set_option maxRecDepth 20000 in
set_option maxHeartbeats 1000000 in
theorem divide_ok  (X Y : Nat) (hX : X < BB ^ 16) (hY : Y < BB ^ 16) (hY0 : 0 < Y) (w0 : World) :
    Fn Tryd.prog 62 [.agg (Wd (X : Int)), .agg (Wd (Y : Int))] w0 [] (fun v _ => v = .tuple #[.agg (Wd ((X / Y : Nat) : Int)), .agg (Wd ((X % Y : Nat) : Int))]) := by
  refine x_enter' (n := 126) Tryd.func62 rfl rfl (Nat.le_of_ble_eq_true rfl) fun a w st => ?_
  refine x_seq ?_
  refine x_region ?_
  refine x_box st rfl rfl rfl rfl (by decide) ?_
  clear st a; intro a w b1 st
  refine x_box st rfl rfl rfl rfl (by decide) ?_
  clear st a; intro a w b2 st
  refine x_alloc st rfl z47 rfl rfl (by decide) ?_
  clear st a; intro a w b3 st
  replace st := st.cast rfl (show _ = ([(b3, .cells (Wd 0) 47 (0, 0)), (b2, .cells (Wd (Y : Int)) 47 (0, 0)), (b1, .cells (Wd (X : Int)) 47 (0, 0))] : Hp) from rfl)
  refine x_alloc st rfl z47 rfl rfl (by decide) ?_
  clear st a; intro a w b4 st
  replace st := st.cast rfl (show _ = ([(b4, .cells (Wd 0) 47 (0, 0)), (b3, .cells (Wd 0) 47 (0, 0)), (b2, .cells (Wd (Y : Int)) 47 (0, 0)), (b1, .cells (Wd (X : Int)) 47 (0, 0))] : Hp) from rfl)
  refine x_nil ?_
  refine x_seq ?_
  refine x_draw st [] [.det (.slice (some ⟨b1, 0, none⟩) 16 16), .det (.int .i64 ((lcnt 16 (limb (X : Int)) : Nat) : Int)), .det (.slice (some ⟨b2, 0, none⟩) 16 16), .det (.int .i64 ((lcnt 16 (limb (Y : Int)) : Nat) : Int)), .det (.int .i64 ((lcnt 16 (limb (X : Int)) : Nat) : Int)), .det (.int .i64 ((lcnt 16 (limb (Y : Int)) : Nat) : Int))] mixed (by kernel_rfl)
    ⟨ob_run (Fi := [(2, .pointer (some ⟨b1, 0, none⟩))]) (by kernel_rfl) rfl rfl ⟨by kernel_rfl, trivial⟩ (fun a w st hk hxx w' => r_slice st rfl rfl rfl rfl rfl rfl ⟨rfl, rfl⟩ (run_sliceA0 u47 s45 _)),
      ob_call (Fi := [(16, .slice (some ⟨b1, 0, none⟩) 16 16)]) (by kernel_rfl) rfl ent42 rfl ⟨by kernel_rfl, trivial⟩ rfl (fun a w st hk hxx => (count_ok b1 16 16 16 (limb (X : Int)) 47 (0, 0) (by omega) (by omega) (st.at 3 rfl))) (fun _ _ _ _ hp => ⟨hp, fun b hb => by cases hb⟩),
      ob_run (Fi := [(3, .pointer (some ⟨b2, 0, none⟩))]) (by kernel_rfl) rfl rfl ⟨by kernel_rfl, trivial⟩ (fun a w st hk hxx w' => r_slice st rfl rfl rfl rfl rfl rfl ⟨rfl, rfl⟩ (run_sliceA0 u47 s45 _)),
      ob_call (Fi := [(18, .slice (some ⟨b2, 0, none⟩) 16 16)]) (by kernel_rfl) rfl ent42 rfl ⟨by kernel_rfl, trivial⟩ rfl (fun a w st hk hxx => (count_ok b2 16 16 16 (limb (Y : Int)) 47 (0, 0) (by omega) (by omega) (st.at 2 rfl))) (fun _ _ _ _ hp => ⟨hp, fun b hb => by cases hb⟩),
      ob_p (Fi := [(17, .int .i64 ((lcnt 16 (limb (X : Int)) : Nat) : Int))]) (by kernel_rfl) rfl rfl ⟨by kernel_rfl, trivial⟩ rfl rfl,
      ob_p (Fi := [(19, .int .i64 ((lcnt 16 (limb (Y : Int)) : Nat) : Int))]) (by kernel_rfl) rfl rfl ⟨by kernel_rfl, trivial⟩ rfl rfl, trivial⟩ ?_
  intro a1 w1 hk1 st1 he
  clear hk1 st a w; revert st1 he; revert a1; revert w1; intro w a st he
  replace st := st.pickTo (F' := [(0, .agg (Wd (X : Int))), (1, .agg (Wd (Y : Int))), (2, .pointer (some ⟨b1, 0, none⟩)), (3, .pointer (some ⟨b2, 0, none⟩)), (4, .pointer (some ⟨b3, 0, none⟩)), (5, .pointer (some ⟨b4, 0, none⟩)), (6, .int .i64 ((lcnt 16 (limb (X : Int)) : Nat) : Int)), (7, .int .i64 ((lcnt 16 (limb (Y : Int)) : Nat) : Int))]) [0, 1, 2, 3, 4, 5, 6, 7] (by kernel_rfl)
  clear he
  change wpList _ _ _ [] _ _
  refine x_nil ?_
  show NP _ _ _ _
  refine NP.normal ?_
  generalize hnX : lcnt 16 (limb (X : Int)) = n at st
  generalize hmY : lcnt 16 (limb (Y : Int)) = m at st
  obtain ⟨hn16, hvX, hXn⟩ := nl_facts hX hnX
  obtain ⟨hm16, hvY, hYm⟩ := nl_facts hY hmY
  have hm0 := nl_some hY hmY hY0
  refine x_seq ?_
  refine wp_block ?_
  refine x_seq ?_
  refine x_region ?_
  refine xseg 4 st rfl ?_
  clear st a; intro a st
  refine x_nil ?_
  refine x_condD st rfl (fun h2 => ?_) (fun h2 => ?_)
  · refine x_seq ?_
    have hlt := nl_small hX hY hnX hmY (by omega)
    replace st := (st.front 1 rfl).cast rfl (show _ = ([(b3, .cells (Wd 0) 47 (0, 0)), (b4, .cells (Wd 0) 47 (0, 0)), (b2, .cells (Wd (Y : Int)) 47 (0, 0)), (b1, .cells (Wd (X : Int)) 47 (0, 0))] : Hp) from rfl)
    refine x_drawE (HB := ([(b3, .cells (Wd 0) 47 (0, 0))] : Hp)) (H := ([(b4, .cells (Wd 0) 47 (0, 0)), (b2, .cells (Wd (Y : Int)) 47 (0, 0)), (b1, .cells (Wd (X : Int)) 47 (0, 0))] : Hp)) st [] [⟨2, 4, 24, 0, .inr 0, 47, 16⟩] [.det (.agg (Wd 0)), .det (.agg (Wd (X : Int))), .det undef, .det undef] mixed (by kernel_rfl) (by kernel_rfl) ⟨⟨s47, fun v w h => ⟨Wd 0, h, (Wd_size _), (AF_one _ _)⟩, ⟨_, _, rfl, rfl, (Wd_size _)⟩⟩, trivial⟩
      ⟨ob_run (Fi := []) (by kernel_rfl) rfl rfl trivial (fun a w st hk hxx w' => r_build0 bz47 rfl),
        ob_w (Fi := [(2, .pointer (some ⟨b1, 0, none⟩))]) (by kernel_rfl) rfl rfl ⟨by kernel_rfl, trivial⟩ (fun a w st hk hxx => r_load st rfl rfl (run_loadW (st.at 2 rfl) u47 rfl s47 (Wd_size _))),
        ob_store (by kernel_rfl),
        ob_store (by kernel_rfl), trivial⟩ ?_
    intro a1 w1 hk1 st1 he hput hback
    clear hk1 st a w; revert st1 he hput hback; revert a1; revert w1; intro w a st he hput hback
    replace st := hback ([(b3, .cells (Wd 0) 47 (0, 0))] : Hp) (by simp only [List.map_cons, List.map_nil]) (all1 ((hput ⟨2, 4, 24, 0, .inr 0, 47, 16⟩ (List.mem_of_getElem? (i := 0) rfl)).at (b := b3) (C := Wd 0) st rfl rfl) (all0))
    replace st := st.cast rfl (show _ = ([(b3, .cells (Wd 0) 47 (0, 0)), (b4, .cells (Wd 0) 47 (0, 0)), (b2, .cells (Wd (Y : Int)) 47 (0, 0)), (b1, .cells (Wd (X : Int)) 47 (0, 0))] : Hp) from rfl)
    clear hput hback
    replace st := st.pickTo (F' := [(0, .agg (Wd (X : Int))), (1, .agg (Wd (Y : Int))), (2, .pointer (some ⟨b1, 0, none⟩)), (3, .pointer (some ⟨b2, 0, none⟩)), (4, .pointer (some ⟨b3, 0, none⟩)), (5, .pointer (some ⟨b4, 0, none⟩)), (6, .int .i64 ((n : Nat) : Int)), (7, .int .i64 ((m : Nat) : Int)), (21, .int .i64 ((n : Nat) : Int)), (22, .int .i64 ((m : Nat) : Int)), (23, .bool (decide (((n : Nat) : Int) < ((m : Nat) : Int)))), (20, .bool (decide (((n : Nat) : Int) < ((m : Nat) : Int)))), (25, .agg (Wd (X : Int)))]) [0, 1, 2, 3, 4, 5, 6, 7, 21, 22, 23, 20, 25] (by kernel_rfl)
    clear he
    change wpList _ _ _ [_] _ _
    refine x_store st 1 rfl rfl rfl rfl (run_storeW (st.at 1 rfl) (by first | exact s47 | simp only [s47, Wd_size]) (by first | rfl | simp only [Wd_size]) (AF_one _ _)) rfl rfl ?_
    clear st a w; intro a w st
    replace st := st.cast rfl (show _ = ([(b3, .cells (Wd 0) 47 (0, 0)), (b4, .cells (Wd (X : Int)) 47 (0, 0)), (b2, .cells (Wd (Y : Int)) 47 (0, 0)), (b1, .cells (Wd (X : Int)) 47 (0, 0))] : Hp) from rfl)
    refine x_nil ?_
    show NP _ _ _ _
    refine NP.normal ?_
    refine x_wpret ?_
    refine x_blockRet ?_
    refine x_thenRet ?_
    exact x_retp st [.agg (Wd 0), .agg (Wd (X : Int))] rfl ⟨⟨_, rfl, run_loadW (st.at 0 rfl) u47 rfl s47 (Wd_size _)⟩, ⟨_, rfl, run_loadW (st.at 1 rfl) u47 rfl s47 (Wd_size _)⟩, trivial⟩ rfl (by rw [Nat.div_eq_of_lt hlt, Nat.mod_eq_of_lt hlt]; rfl)
  · refine x_seq ?_
    refine x_region ?_
    refine xseg 3 st rfl ?_
    clear st a; intro a st
    refine x_nil ?_
    refine x_condE st rfl (fun h4 => ?_) (fun h4 => ?_)
    · refine x_seq ?_
      obtain rfl : m = 1 := by omega
      have h1 := one_limb hY hmY
      have hYB : Y < BB := by rw [← h1]; exact limb_lt _ _
      refine x_region ?_
      refine x_run (v := .agg (Wd (X : Int))) st (r_load st rfl rfl (run_loadW (st.at 3 rfl) u47 rfl s47 (Wd_size _))) rfl rfl (by decide) ?_
      clear st a; intro a st
      refine x_run (v := .pointer (some ⟨b2, 0, none⟩)) st (r_index st rfl rfl rfl (run_indexA' (k := 0) (off := 0) u47 s45 (by decide) (by first | rfl | omega) _)) rfl rfl (by decide) ?_
      clear st a; intro a st
      refine x_run (v := .int .u64 ((Y : Nat) : Int)) st (by rw [← ieq (k := .u64) (congrArg (fun n : Nat => (n : Int)) h1)]; exact r_load st rfl rfl (run_load1 (st.at 2 rfl) u45 rfl (AF_get (by decide)))) rfl rfl (by decide) ?_
      clear st a; intro a st
      refine x_call st rfl rfl ent63 rfl rfl (by decide) (short_ok X Y hX hY0 hYB _) ?_
      intro a1 w1 v1 hk1 hv hn st1; subst hv
      clear hn hk1 st a w; revert st1; revert a1; revert w1; intro w a st
      refine xseg 2 st rfl ?_
      clear st a; intro a st
      refine x_store st 1 rfl rfl rfl rfl (run_storeW (st.at 1 rfl) (by first | exact s47 | simp only [s47, Wd_size]) (by first | rfl | simp only [Wd_size]) (AF_one _ _)) rfl rfl ?_
      clear st a w; intro a w st
      replace st := st.cast rfl (show _ = ([(b4, .cells (Wd 0) 47 (0, 0)), (b3, .cells (Wd ((X / Y : Nat) : Int)) 47 (0, 0)), (b2, .cells (Wd (Y : Int)) 47 (0, 0)), (b1, .cells (Wd (X : Int)) 47 (0, 0))] : Hp) from rfl)
      refine x_store st 0 rfl rfl rfl rfl (run_storeW (st.at 0 rfl) (by first | exact s47 | simp only [s47, Wd_size]) (by first | rfl | simp only [Wd_size]) (AF_one _ _)) rfl rfl ?_
      clear st a w; intro a w st
      replace st := st.cast rfl (show _ = ([(b4, .cells (Wd ((X % Y : Nat) : Int)) 47 (0, 0)), (b3, .cells (Wd ((X / Y : Nat) : Int)) 47 (0, 0)), (b2, .cells (Wd (Y : Int)) 47 (0, 0)), (b1, .cells (Wd (X : Int)) 47 (0, 0))] : Hp) from rfl)
      refine x_nil ?_
      refine x_wpret ?_
      refine x_blockRet ?_
      refine x_thenRet ?_
      exact x_retp st [.agg (Wd ((X / Y : Nat) : Int)), .agg (Wd ((X % Y : Nat) : Int))] rfl ⟨⟨_, rfl, run_loadW (st.at 1 rfl) u47 rfl s47 (Wd_size _)⟩, ⟨_, rfl, run_loadW (st.at 0 rfl) u47 rfl s47 (Wd_size _)⟩, trivial⟩ rfl (rfl)
    · refine wp_skip ?_
      refine x_seq ?_
      have hm2 : 2 ≤ m := by omega
      have hmn : m ≤ n := by omega
      have hy0 := nl_top hmY hm0
      have hyB := limb_lt (Y : Int) (m - 1)
      refine x_region ?_
      refine xseg 1 st rfl ?_
      clear st a; intro a st
      refine xp st (.int .i64 ((m - 1 : Nat) : Int)) rfl (wi64 (by omega) (by omega)) rfl rfl (by decide) ?_
      clear st a; intro a st
      refine x_run (v := .pointer (some ⟨b2, (m - 1), none⟩)) st (r_index st rfl rfl rfl (run_indexA' (k := m - 1) (off := (m - 1)) u47 s45 (by omega) (by first | rfl | omega) _)) rfl rfl (by decide) ?_
      clear st a; intro a st
      refine x_run (v := .int .u64 (((limb (Y : Int)) (m - 1) : Nat) : Int)) st (r_load st rfl rfl (run_load1 (st.at 2 rfl) u45 rfl (AF_get (by omega)))) rfl rfl (by decide) ?_
      clear st a; intro a st
      refine x_call st rfl rfl ent64 rfl rfl (by decide) ((LZ_ok _ hy0 hyB _)) ?_
      intro a1 w1 v1 hk1 hv hn st1; subst hv
      clear hn hk1 st a w; revert st1; revert a1; revert w1; intro w a st
      refine xseg 1 st rfl ?_
      clear st a; intro a st
      refine x_nil ?_
      obtain ⟨he63, hn1, hn2, _⟩ := lz_norm hy0 hyB
      generalize lz (limb (Y : Int) (m - 1)) = e at st he63 hn1 hn2
      obtain ⟨hV1, hV2⟩ := norm_div (by omega) hvY (fun j _ => limb_lt _ _) he63 hn1 hn2
      clear hn1 hn2
      refine x_seq ?_
      refine x_drawT (HB := []) (H := ([(b4, .cells (Wd 0) 47 (0, 0)), (b3, .cells (Wd 0) 47 (0, 0)), (b2, .cells (Wd (Y : Int)) 47 (0, 0)), (b1, .cells (Wd (X : Int)) 47 (0, 0))] : Hp)) st [3, 7] [] [.det (.int .i64 ((n : Nat) : Int)), .det (.slice (some ⟨b1, 0, none⟩) n 16), .det (.int .i64 ((e : Nat) : Int)), .det undef, .det (.int .i64 ((m : Nat) : Int)), .det (.slice (some ⟨b2, 0, none⟩) m 16), .det (.int .i64 ((e : Nat) : Int)), .det undef, .det (.int .i64 ((m : Nat) : Int)), .det undef, .det undef, .det undef] mixed (by kernel_rfl) rfl trivial
        ⟨ob_p (Fi := [(6, .int .i64 ((n : Nat) : Int))]) (by kernel_rfl) rfl rfl ⟨by kernel_rfl, trivial⟩ rfl rfl,
          ob_run (Fi := [(2, .pointer (some ⟨b1, 0, none⟩)), (40, .int .i64 ((n : Nat) : Int))]) (by kernel_rfl) rfl rfl ⟨by kernel_rfl, by kernel_rfl, trivial⟩ (fun a w st hk hxx w' => r_slice st rfl rfl rfl rfl rfl rfl ⟨rfl, rfl⟩ (run_sliceA (k := n) u47 s45 (by omega) _)),
          ob_p (Fi := [(8, .int .i64 ((e : Nat) : Int))]) (by kernel_rfl) rfl rfl ⟨by kernel_rfl, trivial⟩ rfl rfl,
          ob_store (by kernel_rfl),
          ob_p (Fi := [(7, .int .i64 ((m : Nat) : Int))]) (by kernel_rfl) rfl rfl ⟨by kernel_rfl, trivial⟩ rfl rfl,
          ob_run (Fi := [(3, .pointer (some ⟨b2, 0, none⟩)), (44, .int .i64 ((m : Nat) : Int))]) (by kernel_rfl) rfl rfl ⟨by kernel_rfl, by kernel_rfl, trivial⟩ (fun a w st hk hxx w' => r_slice st rfl rfl rfl rfl rfl rfl ⟨rfl, rfl⟩ (run_sliceA (k := m) u47 s45 (by omega) _)),
          ob_p (Fi := [(8, .int .i64 ((e : Nat) : Int))]) (by kernel_rfl) rfl rfl ⟨by kernel_rfl, trivial⟩ rfl rfl,
          ob_store (by kernel_rfl),
          ob_p (Fi := [(7, .int .i64 ((m : Nat) : Int))]) (by kernel_rfl) rfl rfl ⟨by kernel_rfl, trivial⟩ rfl rfl,
          ob_store (by kernel_rfl),
          ob_store (by kernel_rfl),
          ob_store (by kernel_rfl), trivial⟩ ?_
      intro a1 w1 hk1 st1 he hput hback; clear hput hback
      clear hk1 st a w; revert st1 he; revert a1; revert w1; intro w a st he
      replace st := st.pickTo (F' := [(0, .agg (Wd (X : Int))), (1, .agg (Wd (Y : Int))), (2, .pointer (some ⟨b1, 0, none⟩)), (3, .pointer (some ⟨b2, 0, none⟩)), (4, .pointer (some ⟨b3, 0, none⟩)), (5, .pointer (some ⟨b4, 0, none⟩)), (6, .int .i64 ((n : Nat) : Int)), (7, .int .i64 ((m : Nat) : Int)), (21, .int .i64 ((n : Nat) : Int)), (22, .int .i64 ((m : Nat) : Int)), (23, .bool (decide (((n : Nat) : Int) < ((m : Nat) : Int)))), (20, .bool (decide (((n : Nat) : Int) < ((m : Nat) : Int)))), (27, .int .i64 ((m : Nat) : Int)), (28, .bool (((m : Nat) : Int) == 1)), (26, .bool (((m : Nat) : Int) == 1)), (35, .int .i64 ((m : Nat) : Int)), (36, .int .i64 ((m - 1 : Nat) : Int)), (37, .pointer (some ⟨b2, (m - 1), none⟩)), (38, .int .u64 (((limb (Y : Int)) (m - 1) : Nat) : Int)), (39, .int .i64 ((e : Nat) : Int)), (8, .int .i64 ((e : Nat) : Int)), (41, .slice (some ⟨b1, 0, none⟩) n 16), (42, .int .i64 ((e : Nat) : Int)), (45, .slice (some ⟨b2, 0, none⟩) m 16), (46, .int .i64 ((e : Nat) : Int)), (48, .int .i64 ((m : Nat) : Int))]) [0, 1, 2, 3, 4, 5, 6, 7, 21, 22, 23, 20, 27, 28, 26, 35, 36, 37, 38, 39, 8, 41, 42, 45, 46, 48] (by kernel_rfl)
      clear he
      change Wt _ _ _ 5 [3, 7, 9, 10, 11] _ _
      refine Wt.one (k := 3) (r := [7, 9, 10, 11]) (by kernel_rfl) rfl rfl ?_
      refine x_call st rfl rfl ent65 rfl rfl (by decide) (shift_ok (l := limb (X : Int)) (st.at 3 rfl) (by omega) (by omega) (by omega) (fun j _ => limb_lt _ _)) ?_
      intro a1 w1 v1 hk1 hv hn st1; obtain ⟨bu, u0, rfl, hbx, hlx, hS1⟩ := hv
      replace st1 := st1.add hbx (hn bu hlx)
      clear hn hk1 hbx hlx st a w; revert st1; revert a1; revert w1; intro w a st
      refine x_nil ?_
      refine QK.normal ?_
      refine Wt.one (k := 7) (r := [9, 10, 11]) (by kernel_rfl) rfl rfl ?_
      refine x_call st rfl rfl ent65 rfl rfl (by decide) (shift_ok (l := limb (Y : Int)) (st.at 3 rfl) (by omega) (by omega) (by omega) (fun j _ => limb_lt _ _)) ?_
      intro a1 w1 v1 hk1 hv hn st1; obtain ⟨bv, v, rfl, hbx, hlx, hS2⟩ := hv
      replace st1 := st1.add hbx (hn bv hlx)
      clear hn hk1 hbx hlx st a w; revert st1; revert a1; revert w1; intro w a st
      refine x_nil ?_
      refine QK.normal ?_
      refine Wt.to (J := fun a w1 => w1 = w ∧ St w0 [] 126 [(0, .agg (Wd (X : Int))), (1, .agg (Wd (Y : Int))), (2, .pointer (some ⟨b1, 0, none⟩)), (3, .pointer (some ⟨b2, 0, none⟩)), (4, .pointer (some ⟨b3, 0, none⟩)), (5, .pointer (some ⟨b4, 0, none⟩)), (6, .int .i64 ((n : Nat) : Int)), (7, .int .i64 ((m : Nat) : Int)), (8, .int .i64 ((e : Nat) : Int)), (9, .slice (some ⟨bu, 0, none⟩) (n + 1) (n + 1)), (10, .slice (some ⟨bv, 0, none⟩) m (m + 1)), (20, .bool (decide (((n : Nat) : Int) < ((m : Nat) : Int)))), (21, .int .i64 ((n : Nat) : Int)), (22, .int .i64 ((m : Nat) : Int)), (23, .bool (decide (((n : Nat) : Int) < ((m : Nat) : Int)))), (26, .bool (((m : Nat) : Int) == 1)), (27, .int .i64 ((m : Nat) : Int)), (28, .bool (((m : Nat) : Int) == 1)), (35, .int .i64 ((m : Nat) : Int)), (36, .int .i64 ((m - 1 : Nat) : Int)), (37, .pointer (some ⟨b2, (m - 1), none⟩)), (38, .int .u64 (((limb (Y : Int)) (m - 1) : Nat) : Int)), (39, .int .i64 ((e : Nat) : Int)), (41, .slice (some ⟨b1, 0, none⟩) n 16), (42, .int .i64 ((e : Nat) : Int)), (43, .slice (some ⟨bu, 0, none⟩) (n + 1) (n + 1)), (45, .slice (some ⟨b2, 0, none⟩) m 16), (46, .int .i64 ((e : Nat) : Int)), (47, .slice (some ⟨bv, 0, none⟩) (m + 1) (m + 1)), (48, .int .i64 ((m : Nat) : Int)), (49, .slice (some ⟨bv, 0, none⟩) m (m + 1))] ([(bv, .cells (AF (m + 1) v) 45 (0, 0)), (bu, .cells (AF (n + 1) u0) 45 (0, 0)), (b4, .cells (Wd 0) 47 (0, 0)), (b3, .cells (Wd 0) 47 (0, 0)), (b2, .cells (Wd (Y : Int)) 47 (0, 0)), (b1, .cells (Wd (X : Int)) 47 (0, 0))] : Hp) a w) (fun a w1 hj => ?_) _ _ _ _ ?_
      rotate_left
      · refine Wt.two (k := 9) (j := 10) (r := [10, 11]) (s := [9, 11]) (by kernel_rfl) rfl rfl rfl rfl ?_ ?_
        · refine x_run (v := .slice (some ⟨bv, 0, none⟩) m (m + 1)) st (r_slice st rfl rfl rfl rfl rfl rfl ⟨rfl, rfl⟩ (run_sliceS0 (k := m) u85 s45 (by omega) _)) rfl rfl (by decide) ?_
          clear st a; intro a st
          refine x_nil ?_
          refine QK.normal ?_
          refine Wt.one (k := 10) (r := [11]) (by kernel_rfl) rfl rfl ?_
          refine xseg 1 st rfl ?_
          clear st a; intro a st
          refine x_nil ?_
          refine QK.normal ?_
          refine Wt.one (k := 11) (r := []) (by kernel_rfl) rfl rfl ?_
          refine xseg 1 st rfl ?_
          clear st a; intro a st
          refine x_nil ?_
          refine QK.normal ?_
          refine Wt.nil ?_
          exact ⟨rfl, st.pickTo [0, 1, 2, 3, 4, 5, 6, 7, 8, 9, 10, 20, 21, 22, 23, 26, 27, 28, 35, 36, 37, 38, 39, 41, 42, 43, 45, 46, 47, 48, 49] (by kernel_rfl)⟩
        · refine xseg 1 st rfl ?_
          clear st a; intro a st
          refine x_nil ?_
          refine QK.normal ?_
          refine Wt.one (k := 9) (r := [11]) (by kernel_rfl) rfl rfl ?_
          refine x_run (v := .slice (some ⟨bv, 0, none⟩) m (m + 1)) st (r_slice st rfl rfl rfl rfl rfl rfl ⟨rfl, rfl⟩ (run_sliceS0 (k := m) u85 s45 (by omega) _)) rfl rfl (by decide) ?_
          clear st a; intro a st
          refine x_nil ?_
          refine QK.normal ?_
          refine Wt.one (k := 11) (r := []) (by kernel_rfl) rfl rfl ?_
          refine xseg 1 st rfl ?_
          clear st a; intro a st
          refine x_nil ?_
          refine QK.normal ?_
          refine Wt.nil ?_
          exact ⟨rfl, st.pickTo [0, 1, 2, 3, 4, 5, 6, 7, 8, 9, 10, 20, 21, 22, 23, 26, 27, 28, 35, 36, 37, 38, 39, 41, 42, 43, 45, 46, 47, 48, 49] (by kernel_rfl)⟩
      obtain ⟨hw1, st⟩ := hj
      subst hw1
      show NP _ _ _ _
      refine NP.normal ?_
      have hv0 : v m = 0 := top_zero (by rw [hS2.vl, hvY]; exact hV2) (Nat.le_refl _)
      have hvV : val m v = Y * 2 ^ e := by have h := hS2.vl; rw [hvY, val_succ, hv0] at h; omega
      have hvl : ∀ j, j < m + 1 → v j < BB := hS2.lt
      have hVp : 0 < val m v := by rw [hvV]; exact Nat.mul_pos hY0 (Nat.pow_pos (by decide))
      have hVm : val m v ≤ BB ^ m := by rw [hvV]; exact Nat.le_of_lt hV2
      have hv1 : 1 ≤ v (m - 1) := Nat.le_trans (by decide) (top_ge (by omega) hvV (fun j hj => hvl j (by omega)) hV1)
      have hL0 := Lg.start hmn hS1.lt (by rw [hS1.vl, hvX]) (show X * 2 ^ e < val m v * BB ^ (n - m + 1) by rw [hvV]; exact lg_small (by omega) hmn he63 hXn hV1)
      replace hV1 : Hid _ := hV1
      replace hV2 : Hid _ := hV2
      clear hS1 hS2 hv0
      refine x_seq ?_
      refine x_region ?_
      refine x_alloc st rfl z47 rfl rfl (by decide) ?_
      clear st a; intro a w b5 st
      replace st := st.cast rfl (show _ = ([(b5, .cells (Wd 0) 47 (0, 0)), (bv, .cells (AF (m + 1) v) 45 (0, 0)), (bu, .cells (AF (n + 1) u0) 45 (0, 0)), (b4, .cells (Wd 0) 47 (0, 0)), (b3, .cells (Wd 0) 47 (0, 0)), (b2, .cells (Wd (Y : Int)) 47 (0, 0)), (b1, .cells (Wd (X : Int)) 47 (0, 0))] : Hp) from rfl)
      refine x_alloc st rfl z47 rfl rfl (by decide) ?_
      clear st a; intro a w b6 st
      replace st := st.cast rfl (show _ = ([(b6, .cells (Wd 0) 47 (0, 0)), (b5, .cells (Wd 0) 47 (0, 0)), (bv, .cells (AF (m + 1) v) 45 (0, 0)), (bu, .cells (AF (n + 1) u0) 45 (0, 0)), (b4, .cells (Wd 0) 47 (0, 0)), (b3, .cells (Wd 0) 47 (0, 0)), (b2, .cells (Wd (Y : Int)) 47 (0, 0)), (b1, .cells (Wd (X : Int)) 47 (0, 0))] : Hp) from rfl)
      refine x_nil ?_
      replace st := st.cast rfl (show _ = ([(b6, .cells (AF 16 (fun _ => 0)) 47 (0, 0)), (b5, .cells (AF 16 (fun _ => 0)) 47 (0, 0)), (bv, .cells (AF (m + 1) v) 45 (0, 0)), (bu, .cells (AF (n + 1) u0) 45 (0, 0)), (b4, .cells (Wd 0) 47 (0, 0)), (b3, .cells (Wd 0) 47 (0, 0)), (b2, .cells (Wd (Y : Int)) 47 (0, 0)), (b1, .cells (Wd (X : Int)) 47 (0, 0))] : Hp) from by rw [Wd_zero])
      refine x_seq ?_
      refine x_seq ?_
      refine x_region ?_
      refine xseg 2 st rfl ?_
      clear st a; intro a st
      refine xp st (.int .i64 (((n - m + 1 : Nat) : Int) - 1)) rfl (wi64 (by omega) (by omega)) rfl rfl (by decide) ?_
      clear st a; intro a st
      refine xseg 1 st rfl ?_
      clear st a; intro a st
      refine x_nil ?_
      refine wp_block ?_
      refine x_loop (G := Nat) (fun k a w => ∃ u q, St w0 [] 126 [(2, .pointer (some ⟨b1, 0, none⟩)), (3, .pointer (some ⟨b2, 0, none⟩)), (4, .pointer (some ⟨b3, 0, none⟩)), (5, .pointer (some ⟨b4, 0, none⟩)), (6, .int .i64 ((n : Nat) : Int)), (7, .int .i64 ((m : Nat) : Int)), (8, .int .i64 ((e : Nat) : Int)), (9, .slice (some ⟨bu, 0, none⟩) (n + 1) (n + 1)), (10, .slice (some ⟨bv, 0, none⟩) m (m + 1)), (11, .pointer (some ⟨b5, 0, none⟩)), (12, .pointer (some ⟨b6, 0, none⟩)), (13, .int .i64 (((k : Nat) : Int) - 1))] ([(b6, .cells (AF 16 (fun _ => 0)) 47 (0, 0)), (b5, .cells (AF 16 q) 47 (0, 0)), (bv, .cells (AF (m + 1) v) 45 (0, 0)), (bu, .cells (AF (n + 1) u) 45 (0, 0)), (b4, .cells (Wd 0) 47 (0, 0)), (b3, .cells (Wd 0) 47 (0, 0)), (b2, .cells (Wd (Y : Int)) 47 (0, 0)), (b1, .cells (Wd (X : Int)) 47 (0, 0))] : Hp) a w ∧ (k ≤ n - m + 1) ∧ (Lg n m (X * 2 ^ e) (val m v) k u q)) (fun k => k) (n - m + 1) ⟨_, _, st.pickTo [2, 3, 4, 5, 6, 7, 8, 9, 10, 11, 12, 13] (by kernel_rfl), by omega, hL0⟩ ?_
      clear st a w; intro k a w ⟨u, q, st, hk, hL⟩
      refine x_seq ?_
      refine x_seq ?_
      refine x_region ?_
      refine xseg 2 st rfl ?_
      clear st a; intro a st
      refine x_nil ?_
      refine x_condD st rfl (fun hc10 => ?_) (fun hc10 => ?_)
      · refine wp_skip ?_
        refine x_seq ?_
        refine wp_block ?_
        refine x_seq ?_
        obtain ⟨i, rfl⟩ : ∃ i, k = i + 1 := ⟨k - 1, by omega⟩
        have hW := hL.top
        have hul := hL.lt
        have hle : u (i + m) ≤ v (m - 1) := guess_le (w := sh u i) (by omega) rfl (fun j hj => hvl j (by omega)) hW
        refine x_region ?_
        refine xseg 1 st rfl ?_
        clear st a; intro a st
        refine xp st (.int .i64 ((i : Nat) : Int)) rfl (ieq (by omega)) rfl rfl (by decide) ?_
        clear st a; intro a st
        refine xp st (.int .i64 ((i : Nat) : Int)) rfl (ieq (by omega)) rfl rfl (by decide) ?_
        clear st a; intro a st
        refine xseg 1 st rfl ?_
        clear st a; intro a st
        refine xp st (.int .i64 ((i + m : Nat) : Int)) rfl (wi64 (by omega) (by omega)) rfl rfl (by decide) ?_
        clear st a; intro a st
        refine xp st (.int .i64 ((i + m + 1 : Nat) : Int)) rfl (wi64 (by omega) (by omega)) rfl rfl (by decide) ?_
        clear st a; intro a st
        refine x_run (v := .slice (some ⟨bu, i, none⟩) (m + 1) (n + 1 - i)) st (r_slice st rfl rfl rfl rfl rfl rfl ⟨rfl, rfl⟩ (by rw [← (show (.slice (some ⟨bu, 0 + i * 1, none⟩) (i + m + 1 - i) ((n + 1) - i) : Value) = .slice (some ⟨bu, i, none⟩) (m + 1) (n + 1 - i) from by rw [Nat.zero_add, Nat.mul_one, show i + m + 1 - i = m + 1 by omega])]; exact run_sliceS (l := i) (k := i + m + 1) u85 s45 (by omega) (by omega) (by omega) _)) rfl rfl (by decide) ?_
        clear st a; intro a st
        refine xseg 1 st rfl ?_
        clear st a; intro a st
        refine x_nil ?_
        refine x_draw st [27, 28] [.det (.int .i64 ((i : Nat) : Int)), .det (.slice (some ⟨bu, i, none⟩) (m + 1) (n + 1 - i)), .det (.slice (some ⟨bv, 0, none⟩) m (m + 1)), .det (.slice (some ⟨bu, i, none⟩) (m + 1) (n + 1 - i)), .det (.int .i64 ((m : Nat) : Int)), .det (.pointer (some ⟨bu, i + m, none⟩)), .det (.int .u64 ((u (i + m) : Nat) : Int)), .det (.slice (some ⟨bu, i, none⟩) (m + 1) (n + 1 - i)), .det (.int .i64 ((m : Nat) : Int)), .det (.int .i64 ((m - 1 : Nat) : Int)), .det (.pointer (some ⟨bu, i + (m - 1), none⟩)), .det (.int .u64 ((u (i + (m - 1)) : Nat) : Int)), .det (.slice (some ⟨bu, i, none⟩) (m + 1) (n + 1 - i)), .det (.int .i64 ((m : Nat) : Int)), .det (.int .i64 ((m - 2 : Nat) : Int)), .det (.pointer (some ⟨bu, i + (m - 2), none⟩)), .det (.int .u64 ((u (i + (m - 2)) : Nat) : Int)), .det (.slice (some ⟨bv, 0, none⟩) m (m + 1)), .det (.int .i64 ((m : Nat) : Int)), .det (.int .i64 ((m - 1 : Nat) : Int)), .det (.pointer (some ⟨bv, (m - 1), none⟩)), .det (.int .u64 ((v (m - 1) : Nat) : Int)), .det (.slice (some ⟨bv, 0, none⟩) m (m + 1)), .det (.int .i64 ((m : Nat) : Int)), .det (.int .i64 ((m - 2 : Nat) : Int)), .det (.pointer (some ⟨bv, (m - 2), none⟩)), .det (.int .u64 ((v (m - 2) : Nat) : Int)), .det undef, .det undef, .det undef, .det undef] mixed (by kernel_rfl)
          ⟨ob_p (Fi := [(13, .int .i64 (((i + 1 : Nat) : Int) - 1))]) (by kernel_rfl) rfl rfl ⟨by kernel_rfl, trivial⟩ rfl (ieq (by omega)),
            ob_p (Fi := [(14, .slice (some ⟨bu, i, none⟩) (m + 1) (n + 1 - i))]) (by kernel_rfl) rfl rfl ⟨by kernel_rfl, trivial⟩ rfl rfl,
            ob_p (Fi := [(10, .slice (some ⟨bv, 0, none⟩) m (m + 1))]) (by kernel_rfl) rfl rfl ⟨by kernel_rfl, trivial⟩ rfl rfl,
            ob_p (Fi := [(14, .slice (some ⟨bu, i, none⟩) (m + 1) (n + 1 - i))]) (by kernel_rfl) rfl rfl ⟨by kernel_rfl, trivial⟩ rfl rfl,
            ob_p (Fi := [(7, .int .i64 ((m : Nat) : Int))]) (by kernel_rfl) rfl rfl ⟨by kernel_rfl, trivial⟩ rfl rfl,
            ob_run (Fi := [(67, .slice (some ⟨bu, i, none⟩) (m + 1) (n + 1 - i)), (68, .int .i64 ((m : Nat) : Int))]) (by kernel_rfl) rfl rfl ⟨by kernel_rfl, by kernel_rfl, trivial⟩ (fun a w st hk hxx w' => r_index st rfl rfl rfl (run_indexS' (k := m) (off := i + m) u85 s45 (by omega) (by first | rfl | omega) _)),
            ob_w (Fi := [(69, .pointer (some ⟨bu, i + m, none⟩))]) (by kernel_rfl) rfl rfl ⟨by kernel_rfl, trivial⟩ (fun a w st hk hxx => r_load st rfl rfl (run_load1 (st.at 3 rfl) u45 rfl (AF_get (by omega)))),
            ob_p (Fi := [(14, .slice (some ⟨bu, i, none⟩) (m + 1) (n + 1 - i))]) (by kernel_rfl) rfl rfl ⟨by kernel_rfl, trivial⟩ rfl rfl,
            ob_p (Fi := [(7, .int .i64 ((m : Nat) : Int))]) (by kernel_rfl) rfl rfl ⟨by kernel_rfl, trivial⟩ rfl rfl,
            ob_p (Fi := [(72, .int .i64 ((m : Nat) : Int))]) (by kernel_rfl) rfl rfl ⟨by kernel_rfl, trivial⟩ rfl (wi64 (by omega) (by omega)),
            ob_run (Fi := [(71, .slice (some ⟨bu, i, none⟩) (m + 1) (n + 1 - i)), (73, .int .i64 ((m - 1 : Nat) : Int))]) (by kernel_rfl) rfl rfl ⟨by kernel_rfl, by kernel_rfl, trivial⟩ (fun a w st hk hxx w' => r_index st rfl rfl rfl (run_indexS' (k := m - 1) (off := i + (m - 1)) u85 s45 (by omega) (by first | rfl | omega) _)),
            ob_w (Fi := [(74, .pointer (some ⟨bu, i + (m - 1), none⟩))]) (by kernel_rfl) rfl rfl ⟨by kernel_rfl, trivial⟩ (fun a w st hk hxx => r_load st rfl rfl (run_load1 (st.at 3 rfl) u45 rfl (AF_get (by omega)))),
            ob_p (Fi := [(14, .slice (some ⟨bu, i, none⟩) (m + 1) (n + 1 - i))]) (by kernel_rfl) rfl rfl ⟨by kernel_rfl, trivial⟩ rfl rfl,
            ob_p (Fi := [(7, .int .i64 ((m : Nat) : Int))]) (by kernel_rfl) rfl rfl ⟨by kernel_rfl, trivial⟩ rfl rfl,
            ob_p (Fi := [(77, .int .i64 ((m : Nat) : Int))]) (by kernel_rfl) rfl rfl ⟨by kernel_rfl, trivial⟩ rfl (wi64 (by omega) (by omega)),
            ob_run (Fi := [(76, .slice (some ⟨bu, i, none⟩) (m + 1) (n + 1 - i)), (78, .int .i64 ((m - 2 : Nat) : Int))]) (by kernel_rfl) rfl rfl ⟨by kernel_rfl, by kernel_rfl, trivial⟩ (fun a w st hk hxx w' => r_index st rfl rfl rfl (run_indexS' (k := m - 2) (off := i + (m - 2)) u85 s45 (by omega) (by first | rfl | omega) _)),
            ob_w (Fi := [(79, .pointer (some ⟨bu, i + (m - 2), none⟩))]) (by kernel_rfl) rfl rfl ⟨by kernel_rfl, trivial⟩ (fun a w st hk hxx => r_load st rfl rfl (run_load1 (st.at 3 rfl) u45 rfl (AF_get (by omega)))),
            ob_p (Fi := [(10, .slice (some ⟨bv, 0, none⟩) m (m + 1))]) (by kernel_rfl) rfl rfl ⟨by kernel_rfl, trivial⟩ rfl rfl,
            ob_p (Fi := [(7, .int .i64 ((m : Nat) : Int))]) (by kernel_rfl) rfl rfl ⟨by kernel_rfl, trivial⟩ rfl rfl,
            ob_p (Fi := [(82, .int .i64 ((m : Nat) : Int))]) (by kernel_rfl) rfl rfl ⟨by kernel_rfl, trivial⟩ rfl (wi64 (by omega) (by omega)),
            ob_run (Fi := [(81, .slice (some ⟨bv, 0, none⟩) m (m + 1)), (83, .int .i64 ((m - 1 : Nat) : Int))]) (by kernel_rfl) rfl rfl ⟨by kernel_rfl, by kernel_rfl, trivial⟩ (fun a w st hk hxx w' => r_index st rfl rfl rfl (run_indexS' (k := m - 1) (off := (m - 1)) u85 s45 (by omega) (by first | rfl | omega) _)),
            ob_w (Fi := [(84, .pointer (some ⟨bv, (m - 1), none⟩))]) (by kernel_rfl) rfl rfl ⟨by kernel_rfl, trivial⟩ (fun a w st hk hxx => r_load st rfl rfl (run_load1 (st.at 2 rfl) u45 rfl (AF_get (by omega)))),
            ob_p (Fi := [(10, .slice (some ⟨bv, 0, none⟩) m (m + 1))]) (by kernel_rfl) rfl rfl ⟨by kernel_rfl, trivial⟩ rfl rfl,
            ob_p (Fi := [(7, .int .i64 ((m : Nat) : Int))]) (by kernel_rfl) rfl rfl ⟨by kernel_rfl, trivial⟩ rfl rfl,
            ob_p (Fi := [(87, .int .i64 ((m : Nat) : Int))]) (by kernel_rfl) rfl rfl ⟨by kernel_rfl, trivial⟩ rfl (wi64 (by omega) (by omega)),
            ob_run (Fi := [(86, .slice (some ⟨bv, 0, none⟩) m (m + 1)), (88, .int .i64 ((m - 2 : Nat) : Int))]) (by kernel_rfl) rfl rfl ⟨by kernel_rfl, by kernel_rfl, trivial⟩ (fun a w st hk hxx w' => r_index st rfl rfl rfl (run_indexS' (k := m - 2) (off := (m - 2)) u85 s45 (by omega) (by first | rfl | omega) _)),
            ob_w (Fi := [(89, .pointer (some ⟨bv, (m - 2), none⟩))]) (by kernel_rfl) rfl rfl ⟨by kernel_rfl, trivial⟩ (fun a w st hk hxx => r_load st rfl rfl (run_load1 (st.at 2 rfl) u45 rfl (AF_get (by omega)))),
            ob_store (by kernel_rfl),
            ob_store (by kernel_rfl),
            ob_store (by kernel_rfl),
            ob_store (by kernel_rfl), trivial⟩ ?_
        intro a1 w1 hk1 st1 he
        clear hk1 st a w; revert st1 he; revert a1; revert w1; intro w a st he
        replace st := st.pickTo (F' := [(2, .pointer (some ⟨b1, 0, none⟩)), (3, .pointer (some ⟨b2, 0, none⟩)), (4, .pointer (some ⟨b3, 0, none⟩)), (5, .pointer (some ⟨b4, 0, none⟩)), (6, .int .i64 ((n : Nat) : Int)), (7, .int .i64 ((m : Nat) : Int)), (8, .int .i64 ((e : Nat) : Int)), (9, .slice (some ⟨bu, 0, none⟩) (n + 1) (n + 1)), (10, .slice (some ⟨bv, 0, none⟩) m (m + 1)), (11, .pointer (some ⟨b5, 0, none⟩)), (12, .pointer (some ⟨b6, 0, none⟩)), (13, .int .i64 (((i + 1 : Nat) : Int) - 1)), (53, .int .i64 (((i + 1 : Nat) : Int) - 1)), (54, .bool (decide (((i + 1 : Nat) : Int) - 1 ≥ 0))), (57, .slice (some ⟨bu, 0, none⟩) (n + 1) (n + 1)), (58, .int .i64 ((i : Nat) : Int)), (59, .int .i64 ((i : Nat) : Int)), (60, .int .i64 ((m : Nat) : Int)), (61, .int .i64 ((i + m : Nat) : Int)), (62, .int .i64 ((i + m + 1 : Nat) : Int)), (63, .slice (some ⟨bu, i, none⟩) (m + 1) (n + 1 - i)), (14, .slice (some ⟨bu, i, none⟩) (m + 1) (n + 1 - i)), (64, .int .i64 ((i : Nat) : Int)), (65, .slice (some ⟨bu, i, none⟩) (m + 1) (n + 1 - i)), (66, .slice (some ⟨bv, 0, none⟩) m (m + 1)), (70, .int .u64 ((u (i + m) : Nat) : Int)), (75, .int .u64 ((u (i + (m - 1)) : Nat) : Int)), (80, .int .u64 ((u (i + (m - 2)) : Nat) : Int)), (85, .int .u64 ((v (m - 1) : Nat) : Int)), (90, .int .u64 ((v (m - 2) : Nat) : Int))]) [2, 3, 4, 5, 6, 7, 8, 9, 10, 11, 12, 13, 53, 54, 57, 58, 59, 60, 61, 62, 63, 14, 64, 65, 66, 70, 75, 80, 85, 90] (by kernel_rfl)
        clear he
        change wpList _ _ _ [_, _, _, _] _ _
        refine x_call st rfl rfl ent67 rfl rfl (by decide) (guess_ok (u (i + m)) (u (i + (m - 1))) (u (i + (m - 2))) (v (m - 1)) (v (m - 2)) (hul _ (by omega)) (hul _ (by omega)) (hul _ (by omega)) (hvl _ (by omega)) (hvl _ (by omega)) hle hv1 _) ?_
        intro a1 w1 v1 hk1 hv hn st1; obtain ⟨g1, rfl, hg1⟩ := hv
        clear hn hk1 st a w; revert st1; revert a1; revert w1; intro w a st
        obtain ⟨hlo, hhi⟩ := guess_fine (w := sh u i) hm2 rfl (fun j hj => hvl j (by omega)) (fun j hj => hul (i + j) (by omega)) hW hv1 hg1
        have hg1B := hg1.1
        refine x_callD st 3 rfl rfl ent66 rfl rfl (by decide) rfl (take_ok (st.at 3 rfl) (st.at 2 rfl) (st.ne 3 2 rfl rfl (by decide)) (by omega) (by omega) (by omega) (by omega) hul hvl hg1B hVp hlo hhi) ?_
        intro a1 w1 v1 hk1 hv hn st1; obtain ⟨u1, hbx, hu1, ho1, rfl, hr1⟩ := hv
        replace st1 := st1 _ hbx
        have hL2 := hL.step (by omega) (by omega) hVp hVm hu1 ho1 hr1
        clear hn hk1 hbx st a w; revert st1; revert a1; revert w1; intro w a st
        replace st := st.cast rfl (show _ = ([(b6, .cells (AF 16 (fun _ => 0)) 47 (0, 0)), (b5, .cells (AF 16 q) 47 (0, 0)), (bv, .cells (AF (m + 1) v) 45 (0, 0)), (bu, .cells (AF (n + 1) u1) 45 (0, 0)), (b4, .cells (Wd 0) 47 (0, 0)), (b3, .cells (Wd 0) 47 (0, 0)), (b2, .cells (Wd (Y : Int)) 47 (0, 0)), (b1, .cells (Wd (X : Int)) 47 (0, 0))] : Hp) from rfl)
        refine x_run (v := .pointer (some ⟨b5, i, none⟩)) st (r_index st rfl rfl rfl (run_indexA' (k := i) (off := i) u47 s45 (by omega) (by first | rfl | omega) _)) rfl rfl (by decide) ?_
        clear st a; intro a st
        refine x_store st 1 rfl rfl rfl rfl (run_store1' (st.at 1 rfl) s45 rfl (by rw [AF_size]; omega) AF_set) rfl rfl ?_
        clear st a w; intro a w st
        replace st := st.cast rfl (show _ = ([(b6, .cells (AF 16 (fun _ => 0)) 47 (0, 0)), (b5, .cells (AF 16 (upd q i (val (m + 1) (sh u i) / val m v))) 47 (0, 0)), (bv, .cells (AF (m + 1) v) 45 (0, 0)), (bu, .cells (AF (n + 1) u1) 45 (0, 0)), (b4, .cells (Wd 0) 47 (0, 0)), (b3, .cells (Wd 0) 47 (0, 0)), (b2, .cells (Wd (Y : Int)) 47 (0, 0)), (b1, .cells (Wd (X : Int)) 47 (0, 0))] : Hp) from rfl)
        refine x_nil ?_
        show NP _ _ _ _
        refine NP.normal ?_
        refine x_region ?_
        refine xseg 1 st rfl ?_
        clear st a; intro a st
        refine xp st (.int .i64 (((i : Nat) : Int) - 1)) rfl (wi64 (by omega) (by omega)) rfl rfl (by decide) ?_
        clear st a; intro a st
        refine xseg 1 st rfl ?_
        clear st a; intro a st
        refine x_nil ?_
        exact ⟨i, ⟨_, _, st.pickTo [2, 3, 4, 5, 6, 7, 8, 9, 10, 11, 12, 13] (by kernel_rfl), by omega, hL2⟩, by omega⟩
      · refine wp_exit ?_
        refine x_thenExit ?_
        refine x_thenExit ?_
        refine x_inBlock ?_
        refine x_seq ?_
        refine x_seq ?_
        obtain rfl : k = 0 := by omega
        have hul := hL.lt
        have hum := hL.low hmn
        have hql := hL.qlt
        rw [hvV] at hL
        obtain ⟨hq, hr⟩ := hL.fin hY0
        clear hL hL0
        have hRm : X % Y < BB ^ m := Nat.lt_trans (Nat.mod_lt _ hY0) hYm
        replace st := st.cast rfl (show _ = ([(b6, .cells (AF 16 (fun _ => 0)) 47 (0, 0)), (b5, .cells (Wd ((X / Y : Nat) : Int)) 47 (0, 0)), (bv, .cells (AF (m + 1) v) 45 (0, 0)), (bu, .cells (AF (n + 1) u) 45 (0, 0)), (b4, .cells (Wd 0) 47 (0, 0)), (b3, .cells (Wd 0) 47 (0, 0)), (b2, .cells (Wd (Y : Int)) 47 (0, 0)), (b1, .cells (Wd (X : Int)) 47 (0, 0))] : Hp) from by rw [wd_nat hql hq])
        refine x_region ?_
        refine xseg 2 st rfl ?_
        clear st a; intro a st
        refine x_nil ?_
        refine wp_block ?_
        refine x_loop (G := Nat) (fun k a w => ∃ g, St w0 [] 126 [(4, .pointer (some ⟨b3, 0, none⟩)), (5, .pointer (some ⟨b4, 0, none⟩)), (7, .int .i64 ((m : Nat) : Int)), (8, .int .i64 ((e : Nat) : Int)), (9, .slice (some ⟨bu, 0, none⟩) (n + 1) (n + 1)), (11, .pointer (some ⟨b5, 0, none⟩)), (12, .pointer (some ⟨b6, 0, none⟩)), (94, .int .i64 ((m : Nat) : Int)), (95, .int .i64 ((k : Nat) : Int))] ([(b6, .cells (AF 16 g) 47 (0, 0)), (b5, .cells (Wd ((X / Y : Nat) : Int)) 47 (0, 0)), (bv, .cells (AF (m + 1) v) 45 (0, 0)), (bu, .cells (AF (n + 1) u) 45 (0, 0)), (b4, .cells (Wd 0) 47 (0, 0)), (b3, .cells (Wd 0) 47 (0, 0)), (b2, .cells (Wd (Y : Int)) 47 (0, 0)), (b1, .cells (Wd (X : Int)) 47 (0, 0))] : Hp) a w ∧ (k ≤ m) ∧ (∀ j, j < k → g j = limb ((X % Y : Nat) : Int) j) ∧ (∀ j, k ≤ j → g j = 0)) (fun k => m - k) 0 ⟨_, st.pickTo [4, 5, 7, 8, 9, 11, 12, 94, 95] (by kernel_rfl), by omega, fun j hj => by omega, fun _ _ => rfl⟩ ?_
        clear st a w; intro k a w ⟨g, st, hk, hg, hz⟩
        refine x_seq ?_
        refine x_region ?_
        refine xseg 1 st rfl ?_
        clear st a; intro a st
        refine x_nil ?_
        refine x_seq ?_
        refine x_condD st rfl (fun hc15 => ?_) (fun hc15 => ?_)
        · refine wp_skip ?_
          refine x_seq ?_
          refine wp_block ?_
          refine x_seq ?_
          refine x_region ?_
          refine xseg 2 st rfl ?_
          clear st a; intro a st
          refine x_nil ?_
          refine x_seq ?_
          have huk := hul k (by omega)
          have huk' : u k < 18446744073709551616 := huk
          refine x_region ?_
          refine xseg 3 st rfl ?_
          clear st a; intro a st
          refine x_run (v := .pointer (some ⟨bu, k, none⟩)) st (r_index st rfl rfl rfl (run_indexS' (k := k) (off := k) u85 s45 (by omega) (by first | rfl | omega) _)) rfl rfl (by decide) ?_
          clear st a; intro a st
          refine x_run (v := .int .u64 ((u k : Nat) : Int)) st (r_load st rfl rfl (run_load1 (st.at 3 rfl) u45 rfl (AF_get (by omega)))) rfl rfl (by decide) ?_
          clear st a; intro a st
          refine xseg 1 st rfl ?_
          clear st a; intro a st
          refine x_run (v := .int .u64 ((e : Nat) : Int)) st (r_conv (z := ((e : Nat) : Int)) st rfl rfl u3 u68 (cvu64 (by omega))) rfl rfl (by decide) ?_
          clear st a; intro a st
          refine x_run (v := .int .u64 ((u k / 2 ^ e : Nat) : Int)) st (r_num (v := .int .u64 ((u k / 2 ^ e : Nat) : Int)) st rfl rfl rfl (run_shrN rfl huk' _)) rfl rfl (by decide) ?_
          clear st a; intro a st
          refine x_run (v := .pointer (some ⟨b6, k, none⟩)) st (r_index st rfl rfl rfl (run_indexA' (k := k) (off := k) u47 s45 (by omega) (by first | rfl | omega) _)) rfl rfl (by decide) ?_
          clear st a; intro a st
          refine x_store st 0 rfl rfl rfl rfl (run_store1' (st.at 0 rfl) s45 rfl (by rw [AF_size]; omega) AF_set) rfl rfl ?_
          clear st a w; intro a w st
          replace st := st.cast rfl (show _ = ([(b6, .cells (AF 16 (upd g k (u k / 2 ^ e))) 47 (0, 0)), (b5, .cells (Wd ((X / Y : Nat) : Int)) 47 (0, 0)), (bv, .cells (AF (m + 1) v) 45 (0, 0)), (bu, .cells (AF (n + 1) u) 45 (0, 0)), (b4, .cells (Wd 0) 47 (0, 0)), (b3, .cells (Wd 0) 47 (0, 0)), (b2, .cells (Wd (Y : Int)) 47 (0, 0)), (b1, .cells (Wd (X : Int)) 47 (0, 0))] : Hp) from rfl)
          refine x_nil ?_
          refine x_seq ?_
          refine x_region ?_
          refine xseg 2 st rfl ?_
          clear st a; intro a st
          refine x_nil ?_
          refine x_condD st rfl (fun h18 => ?_) (fun h18 => ?_)
          · have hbk := back_ok hr hum (fun j hj => hul j (by omega)) (show k < m by omega) he63
            refine x_draw st [] [.det (.int .i64 ((k : Nat) : Int)), .det (.pointer (some ⟨b6, k, none⟩)), .det (.int .u64 (((upd g k (u k / 2 ^ e)) k : Nat) : Int)), .det (.slice (some ⟨bu, 0, none⟩) (n + 1) (n + 1)), .det (.int .i64 ((k : Nat) : Int)), .det (.int .i64 ((k + 1 : Nat) : Int)), .det (.pointer (some ⟨bu, (k + 1), none⟩)), .det (.int .u64 ((u (k + 1) : Nat) : Int)), .det (.int .i64 ((e : Nat) : Int)), .det (.int .i64 ((64 - e : Nat) : Int)), .det (.int .u64 ((64 - e : Nat) : Int)), .det (.int .u64 ((u (k + 1) * 2 ^ (64 - e) % BB : Nat) : Int)), .det (.int .u64 ((limb ((X % Y : Nat) : Int) k : Nat) : Int)), .det (.pointer (some ⟨b6, k, none⟩)), .det undef] mixed (by kernel_rfl)
              ⟨ob_p (Fi := [(15, .int .i64 ((k : Nat) : Int))]) (by kernel_rfl) rfl rfl ⟨by kernel_rfl, trivial⟩ rfl rfl,
                ob_run (Fi := [(12, .pointer (some ⟨b6, 0, none⟩)), (109, .int .i64 ((k : Nat) : Int))]) (by kernel_rfl) rfl rfl ⟨by kernel_rfl, by kernel_rfl, trivial⟩ (fun a w st hk hxx w' => r_index st rfl rfl rfl (run_indexA' (k := k) (off := k) u47 s45 (by omega) (by first | rfl | omega) _)),
                ob_w (Fi := [(110, .pointer (some ⟨b6, k, none⟩))]) (by kernel_rfl) rfl rfl ⟨by kernel_rfl, trivial⟩ (fun a w st hk hxx => r_load st rfl rfl (run_load1 (st.at 0 rfl) u45 rfl (AF_get (by omega)))),
                ob_p (Fi := [(9, .slice (some ⟨bu, 0, none⟩) (n + 1) (n + 1))]) (by kernel_rfl) rfl rfl ⟨by kernel_rfl, trivial⟩ rfl rfl,
                ob_p (Fi := [(15, .int .i64 ((k : Nat) : Int))]) (by kernel_rfl) rfl rfl ⟨by kernel_rfl, trivial⟩ rfl rfl,
                ob_p (Fi := [(113, .int .i64 ((k : Nat) : Int))]) (by kernel_rfl) rfl rfl ⟨by kernel_rfl, trivial⟩ rfl (wi64 (by omega) (by omega)),
                ob_run (Fi := [(112, .slice (some ⟨bu, 0, none⟩) (n + 1) (n + 1)), (114, .int .i64 ((k + 1 : Nat) : Int))]) (by kernel_rfl) rfl rfl ⟨by kernel_rfl, by kernel_rfl, trivial⟩ (fun a w st hk hxx w' => r_index st rfl rfl rfl (run_indexS' (k := k + 1) (off := (k + 1)) u85 s45 (by omega) (by first | rfl | omega) _)),
                ob_w (Fi := [(115, .pointer (some ⟨bu, (k + 1), none⟩))]) (by kernel_rfl) rfl rfl ⟨by kernel_rfl, trivial⟩ (fun a w st hk hxx => r_load st rfl rfl (run_load1 (st.at 3 rfl) u45 rfl (AF_get (by omega)))),
                ob_p (Fi := [(8, .int .i64 ((e : Nat) : Int))]) (by kernel_rfl) rfl rfl ⟨by kernel_rfl, trivial⟩ rfl rfl,
                ob_p (Fi := [(117, .int .i64 ((e : Nat) : Int))]) (by kernel_rfl) rfl rfl ⟨by kernel_rfl, trivial⟩ rfl (wi64 (by omega) (by omega)),
                ob_run (Fi := [(118, .int .i64 ((64 - e : Nat) : Int))]) (by kernel_rfl) rfl rfl ⟨by kernel_rfl, trivial⟩ (fun a w st hk hxx w' => r_conv (z := ((64 - e : Nat) : Int)) st rfl rfl u3 u68 (cvu64 (by omega))),
                ob_run (Fi := [(116, .int .u64 ((u (k + 1) : Nat) : Int)), (119, .int .u64 ((64 - e : Nat) : Int))]) (by kernel_rfl) rfl rfl ⟨by kernel_rfl, by kernel_rfl, trivial⟩ (fun a w st hk hxx w' => r_num (v := .int .u64 ((u (k + 1) * 2 ^ (64 - e) % BB : Nat) : Int)) st rfl rfl rfl (run_shlN (by omega) rfl _)),
                ob_run (Fi := [(111, .int .u64 (((upd g k (u k / 2 ^ e)) k : Nat) : Int)), (120, .int .u64 ((u (k + 1) * 2 ^ (64 - e) % BB : Nat) : Int))]) (by kernel_rfl) rfl rfl ⟨by kernel_rfl, by kernel_rfl, trivial⟩ (fun a w st hk hxx w' => r_num (v := .int .u64 ((limb ((X % Y : Nat) : Int) k : Nat) : Int)) st rfl rfl rfl (run_orN (by rw [upd_same]; exact Nat.lt_of_le_of_lt (Nat.div_le_self _ _) huk') (Nat.mod_lt _ (by decide)) (by rw [hbk, upd_same]; exact back_or he63 (by omega) huk) _)),
                ob_run (Fi := [(12, .pointer (some ⟨b6, 0, none⟩)), (109, .int .i64 ((k : Nat) : Int))]) (by kernel_rfl) rfl rfl ⟨by kernel_rfl, by kernel_rfl, trivial⟩ (fun a w st hk hxx w' => r_index st rfl rfl rfl (run_indexA' (k := k) (off := k) u47 s45 (by omega) (by first | rfl | omega) _)),
                ob_store (by kernel_rfl), trivial⟩ ?_
            intro a1 w1 hk1 st1 he
            clear hk1 st a w; revert st1 he; revert a1; revert w1; intro w a st he
            replace st := st.pickTo (F' := [(4, .pointer (some ⟨b3, 0, none⟩)), (5, .pointer (some ⟨b4, 0, none⟩)), (7, .int .i64 ((m : Nat) : Int)), (8, .int .i64 ((e : Nat) : Int)), (9, .slice (some ⟨bu, 0, none⟩) (n + 1) (n + 1)), (11, .pointer (some ⟨b5, 0, none⟩)), (12, .pointer (some ⟨b6, 0, none⟩)), (94, .int .i64 ((m : Nat) : Int)), (95, .int .i64 ((k : Nat) : Int)), (96, .bool (decide (((k : Nat) : Int) < ((m : Nat) : Int)))), (97, .int .i64 ((k : Nat) : Int)), (15, .int .i64 ((k : Nat) : Int)), (98, .int .i64 ((k : Nat) : Int)), (99, .slice (some ⟨bu, 0, none⟩) (n + 1) (n + 1)), (100, .int .i64 ((k : Nat) : Int)), (101, .pointer (some ⟨bu, k, none⟩)), (102, .int .u64 ((u k : Nat) : Int)), (103, .int .i64 ((e : Nat) : Int)), (104, .int .u64 ((e : Nat) : Int)), (105, .int .u64 ((u k / 2 ^ e : Nat) : Int)), (106, .pointer (some ⟨b6, k, none⟩)), (107, .int .i64 ((e : Nat) : Int)), (108, .bool (decide (((e : Nat) : Int) > 0))), (121, .int .u64 ((limb ((X % Y : Nat) : Int) k : Nat) : Int)), (122, .pointer (some ⟨b6, k, none⟩))]) [4, 5, 7, 8, 9, 11, 12, 94, 95, 96, 97, 15, 98, 99, 100, 101, 102, 103, 104, 105, 106, 107, 108, 121, 122] (by kernel_rfl)
            clear he
            change wpList _ _ _ [_] _ _
            refine x_store st 0 rfl rfl rfl rfl (run_store1' (st.at 0 rfl) s45 rfl (by rw [AF_size]; omega) AF_set) rfl rfl ?_
            clear st a w; intro a w st
            replace st := st.cast rfl (show _ = ([(b6, .cells (AF 16 (upd (upd g k (u k / 2 ^ e)) k (limb ((X % Y : Nat) : Int) k))) 47 (0, 0)), (b5, .cells (Wd ((X / Y : Nat) : Int)) 47 (0, 0)), (bv, .cells (AF (m + 1) v) 45 (0, 0)), (bu, .cells (AF (n + 1) u) 45 (0, 0)), (b4, .cells (Wd 0) 47 (0, 0)), (b3, .cells (Wd 0) 47 (0, 0)), (b2, .cells (Wd (Y : Int)) 47 (0, 0)), (b1, .cells (Wd (X : Int)) 47 (0, 0))] : Hp) from rfl)
            refine x_nil ?_
            show NP _ _ _ _
            refine NP.normal ?_
            have hg2 := updS (f := limb ((X % Y : Nat) : Int)) (g := upd g k (u k / 2 ^ e)) (k := k) (fun j hj => by unfold upd; rw [if_neg (by omega)]; exact hg j hj)
            have hz2 : ∀ j, k + 1 ≤ j → upd (upd g k (u k / 2 ^ e)) k (limb ((X % Y : Nat) : Int) k) j = 0 := fun j hj => by unfold upd; rw [if_neg (by omega), if_neg (by omega)]; exact hz j (by omega)
            refine x_region ?_
            refine xp st (.int .i64 ((k + 1 : Nat) : Int)) rfl (wi64 (by omega) (by omega)) rfl rfl (by decide) ?_
            clear st a; intro a st
            refine xseg 1 st rfl ?_
            clear st a; intro a st
            refine x_nil ?_
            exact ⟨k + 1, ⟨_, st.pickTo [4, 5, 7, 8, 9, 11, 12, 94, 95] (by kernel_rfl), by omega, hg2, hz2⟩, by omega⟩
          · refine wp_skip ?_
            have hb0 := back_ok0 (show e = 0 by omega) hr (fun j hj => hul j (by omega)) (show k < m by omega)
            rw [← hb0] at st
            have hg2 := updS (f := limb ((X % Y : Nat) : Int)) (g := g) (k := k) hg
            have hz2 : ∀ j, k + 1 ≤ j → upd g k (limb ((X % Y : Nat) : Int) k) j = 0 := fun j hj => by unfold upd; rw [if_neg (by omega)]; exact hz j (by omega)
            refine x_region ?_
            refine xp st (.int .i64 ((k + 1 : Nat) : Int)) rfl (wi64 (by omega) (by omega)) rfl rfl (by decide) ?_
            clear st a; intro a st
            refine xseg 1 st rfl ?_
            clear st a; intro a st
            refine x_nil ?_
            exact ⟨k + 1, ⟨_, st.pickTo [4, 5, 7, 8, 9, 11, 12, 94, 95] (by kernel_rfl), by omega, hg2, hz2⟩, by omega⟩
        · refine wp_exit ?_
          refine x_thenExit ?_
          refine x_thenExit ?_
          refine x_inBlock ?_
          refine x_seq ?_
          obtain rfl : m = k := by omega
          replace st := st.cast rfl (show _ = ([(b6, .cells (Wd ((X % Y : Nat) : Int)) 47 (0, 0)), (b5, .cells (Wd ((X / Y : Nat) : Int)) 47 (0, 0)), (bv, .cells (AF (m + 1) v) 45 (0, 0)), (bu, .cells (AF (n + 1) u) 45 (0, 0)), (b4, .cells (Wd 0) 47 (0, 0)), (b3, .cells (Wd 0) 47 (0, 0)), (b2, .cells (Wd (Y : Int)) 47 (0, 0)), (b1, .cells (Wd (X : Int)) 47 (0, 0))] : Hp) from by rw [wd_low hm16 hRm hg hz])
          replace st := (st.front 5 rfl).cast rfl (show _ = ([(b3, .cells (Wd 0) 47 (0, 0)), (b6, .cells (Wd ((X % Y : Nat) : Int)) 47 (0, 0)), (b5, .cells (Wd ((X / Y : Nat) : Int)) 47 (0, 0)), (bv, .cells (AF (m + 1) v) 45 (0, 0)), (bu, .cells (AF (n + 1) u) 45 (0, 0)), (b4, .cells (Wd 0) 47 (0, 0)), (b2, .cells (Wd (Y : Int)) 47 (0, 0)), (b1, .cells (Wd (X : Int)) 47 (0, 0))] : Hp) from rfl)
          refine x_drawE (HB := ([(b3, .cells (Wd 0) 47 (0, 0))] : Hp)) (H := ([(b6, .cells (Wd ((X % Y : Nat) : Int)) 47 (0, 0)), (b5, .cells (Wd ((X / Y : Nat) : Int)) 47 (0, 0)), (bv, .cells (AF (m + 1) v) 45 (0, 0)), (bu, .cells (AF (n + 1) u) 45 (0, 0)), (b4, .cells (Wd 0) 47 (0, 0)), (b2, .cells (Wd (Y : Int)) 47 (0, 0)), (b1, .cells (Wd (X : Int)) 47 (0, 0))] : Hp)) st [] [⟨2, 4, 124, 0, .inr 0, 47, 16⟩] [.det (.agg (Wd ((X / Y : Nat) : Int))), .det (.agg (Wd ((X % Y : Nat) : Int))), .det undef, .det undef] mixed (by kernel_rfl) (by kernel_rfl) ⟨⟨s47, fun v w h => ⟨Wd ((X / Y : Nat) : Int), h, (Wd_size _), (AF_one _ _)⟩, ⟨_, _, rfl, rfl, (Wd_size _)⟩⟩, trivial⟩
            ⟨ob_w (Fi := [(11, .pointer (some ⟨b5, 0, none⟩))]) (by kernel_rfl) rfl rfl ⟨by kernel_rfl, trivial⟩ (fun a w st hk hxx => r_load st rfl rfl (run_loadW (st.at 1 rfl) u47 rfl s47 (Wd_size _))),
              ob_w (Fi := [(12, .pointer (some ⟨b6, 0, none⟩))]) (by kernel_rfl) rfl rfl ⟨by kernel_rfl, trivial⟩ (fun a w st hk hxx => r_load st rfl rfl (run_loadW (st.at 0 rfl) u47 rfl s47 (Wd_size _))),
              ob_store (by kernel_rfl),
              ob_store (by kernel_rfl), trivial⟩ ?_
          intro a1 w1 hk1 st1 he hput hback
          clear hk1 st a w; revert st1 he hput hback; revert a1; revert w1; intro w a st he hput hback
          replace st := hback ([(b3, .cells (Wd ((X / Y : Nat) : Int)) 47 (0, 0))] : Hp) (by simp only [List.map_cons, List.map_nil]) (all1 ((hput ⟨2, 4, 124, 0, .inr 0, 47, 16⟩ (List.mem_of_getElem? (i := 0) rfl)).at (b := b3) (C := Wd ((X / Y : Nat) : Int)) st rfl rfl) (all0))
          replace st := st.cast rfl (show _ = ([(b3, .cells (Wd ((X / Y : Nat) : Int)) 47 (0, 0)), (b6, .cells (Wd ((X % Y : Nat) : Int)) 47 (0, 0)), (b5, .cells (Wd ((X / Y : Nat) : Int)) 47 (0, 0)), (bv, .cells (AF (m + 1) v) 45 (0, 0)), (bu, .cells (AF (n + 1) u) 45 (0, 0)), (b4, .cells (Wd 0) 47 (0, 0)), (b2, .cells (Wd (Y : Int)) 47 (0, 0)), (b1, .cells (Wd (X : Int)) 47 (0, 0))] : Hp) from rfl)
          clear hput hback
          replace st := st.pickTo (F' := [(4, .pointer (some ⟨b3, 0, none⟩)), (5, .pointer (some ⟨b4, 0, none⟩)), (7, .int .i64 ((m : Nat) : Int)), (8, .int .i64 ((e : Nat) : Int)), (9, .slice (some ⟨bu, 0, none⟩) (n + 1) (n + 1)), (11, .pointer (some ⟨b5, 0, none⟩)), (12, .pointer (some ⟨b6, 0, none⟩)), (94, .int .i64 ((m : Nat) : Int)), (95, .int .i64 ((m : Nat) : Int)), (96, .bool (decide (((m : Nat) : Int) < ((m : Nat) : Int)))), (125, .agg (Wd ((X % Y : Nat) : Int)))]) [4, 5, 7, 8, 9, 11, 12, 94, 95, 96, 125] (by kernel_rfl)
          clear he
          change wpList _ _ _ [_] _ _
          refine x_store st 5 rfl rfl rfl rfl (run_storeW (st.at 5 rfl) (by first | exact s47 | simp only [s47, Wd_size]) (by first | rfl | simp only [Wd_size]) (AF_one _ _)) rfl rfl ?_
          clear st a w; intro a w st
          replace st := st.cast rfl (show _ = ([(b3, .cells (Wd ((X / Y : Nat) : Int)) 47 (0, 0)), (b6, .cells (Wd ((X % Y : Nat) : Int)) 47 (0, 0)), (b5, .cells (Wd ((X / Y : Nat) : Int)) 47 (0, 0)), (bv, .cells (AF (m + 1) v) 45 (0, 0)), (bu, .cells (AF (n + 1) u) 45 (0, 0)), (b4, .cells (Wd ((X % Y : Nat) : Int)) 47 (0, 0)), (b2, .cells (Wd (Y : Int)) 47 (0, 0)), (b1, .cells (Wd (X : Int)) 47 (0, 0))] : Hp) from rfl)
          refine x_nil ?_
          show NP _ _ _ _
          refine NP.normal ?_
          refine x_wpret ?_
          exact x_retp st [.agg (Wd ((X / Y : Nat) : Int)), .agg (Wd ((X % Y : Nat) : Int))] rfl ⟨⟨_, rfl, run_loadW (st.at 0 rfl) u47 rfl s47 (Wd_size _)⟩, ⟨_, rfl, run_loadW (st.at 5 rfl) u47 rfl s47 (Wd_size _)⟩, trivial⟩ rfl (rfl)

end Go.Proofs.YtnkbhmonceiocaaDoor
