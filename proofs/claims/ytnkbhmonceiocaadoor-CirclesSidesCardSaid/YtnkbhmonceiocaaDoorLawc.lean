/-
  The law CirclesSides: for every input it returns true.
-/
import Derived.Test.YtnkbhmonceiocaaDoorCircb
import Derived.Test.YtnkbhmonceiocaaDoorSideP
namespace Go.Proofs.YtnkbhmonceiocaaDoor
open Go Go.RowKit
namespace FLawc
theorem bld25_0i64 (x0 : Int) (w : World) : (Instr.build 25 #[(0, .int .i64 x0)]).run Tryd.prog w = .ok (.agg #[.int .i64 x0, .int .i64 0]) w := by kernel_rfl
theorem bld25_0i64_1i64 (x0 : Int) (x1 : Int) (w : World) : (Instr.build 25 #[(0, .int .i64 x0), (1, .int .i64 x1)]).run Tryd.prog w = .ok (.agg #[.int .i64 x0, .int .i64 x1]) w := by kernel_rfl
theorem bld25_1i64 (x1 : Int) (w : World) : (Instr.build 25 #[(1, .int .i64 x1)]).run Tryd.prog w = .ok (.agg #[.int .i64 0, .int .i64 x1]) w := by kernel_rfl
theorem bz25 (w : World) : (Instr.build 25 #[]).run Tryd.prog w = .ok (.agg (#[.int .i64 0, .int .i64 0])) w := by kernel_rfl
theorem ent10 (args : Array Value) (w : World) : (callFunc 10 args).run Tryd.prog w = .ok (.enter 10 args) w := enters_at Tryd.func10 (by kernel_rfl) rfl args w
theorem ent11 (args : Array Value) (w : World) : (callFunc 11 args).run Tryd.prog w = .ok (.enter 11 args) w := enters_at Tryd.func11 (by kernel_rfl) rfl args w
theorem ent5 (args : Array Value) (w : World) : (callFunc 5 args).run Tryd.prog w = .ok (.enter 5 args) w := enters_at Tryd.func5 (by kernel_rfl) rfl args w
theorem ent6 (args : Array Value) (w : World) : (callFunc 6 args).run Tryd.prog w = .ok (.enter 6 args) w := enters_at Tryd.func6 (by kernel_rfl) rfl args w
theorem o25_0 : fieldOff Tryd.prog 25 0 = some 0 := by kernel_rfl
theorem o25_1 : fieldOff Tryd.prog 25 1 = some 1 := by kernel_rfl
theorem qpt : Tryd.prog.eqGuardType Tryd.prog.depth 25 = false := by kernel_rfl
theorem r25 : ∃ d, Tryd.prog.underlying 25 = some d ∧ d.isRow = true := ⟨_, Tryd.underlying25, by kernel_rfl⟩
theorem s25 : (Tryd.prog.info? 25).map (·.size) = some 2 := by kernel_rfl
theorem u2 : Tryd.prog.underlying 2 = some (.int .i64) := by kernel_rfl
theorem u22 : Tryd.prog.underlying 22 = some (.int .u16) := by kernel_rfl
theorem ui27 : ∃ ms, Tryd.prog.underlying 27 = some (.interface ms) := ⟨_, Tryd.underlying27⟩
theorem z25 : (Tryd.prog.info? 25).bind (·.zero) = some (.agg (#[.int .i64 0, .int .i64 0])) := by kernel_rfl
end FLawc
open FLawc
theorem ErrV.zero {w0 w : World} {op : ByteArray} {n : Int} {u : Value} (h : ErrV w0 w op n u) (hn : n = 0) : u = .nilIface := by
  rcases h with ⟨_, h⟩ | ⟨h, _⟩
  · exact h
  · exact absurd hn h
theorem ErrV.some {w0 w : World} {op : ByteArray} {n k : Int} {u : Value} (h : ErrV w0 w op n u) (hn : n = k) (hk : k ≠ 0) : ∃ b, u = .iface 80 (.pointer (some ⟨b, 0, none⟩)) ∧ w.heap[b]? = some (errObj op k) ∧ w0.heap.size ≤ b := by
  subst hn
  rcases h with ⟨h, _⟩ | ⟨_, h⟩
  · exact absurd h hk
  · exact h
theorem Meet_or (px py r qx qy s base : Int) (w0 : World) : Fn Tryd.prog 6 [.agg #[.int .i64 px, .int .i64 py], .int .i64 r, .agg #[.int .i64 qx, .int .i64 qy], .int .i64 s, .int .i64 base] w0 [] (fun v w' =>
    (meetE px py r qx qy s base = 0 ∧ v = .tuple #[.agg #[.int .i64 (mP1 px py r qx qy s).x, .int .i64 (mP1 px py r qx qy s).y], .agg #[.int .i64 (mP2 px py r qx qy s).x, .int .i64 (mP2 px py r qx qy s).y], .nilIface]) ∨
    (meetE px py r qx qy s base ≠ 0 ∧ ∃ b, v = .tuple #[.agg #[.int .i64 0, .int .i64 0], .agg #[.int .i64 0, .int .i64 0], .iface 80 (.pointer (some ⟨b, 0, none⟩))] ∧ w'.heap[b]? = some (errObj ⟨#[99, 105, 114, 99, 108, 101]⟩ (meetE px py r qx qy s base)) ∧ w0.heap.size ≤ b)) :=
  (Meet_ok px py r qx qy s base w0).mono fun v w' _ ⟨u, hu, hv⟩ => by
    subst hv
    rcases hu with ⟨h, rfl⟩ | ⟨h, b, rfl, h2, h3⟩
    · left; simp only [h, if_true, true_and]
    · right; refine ⟨h, b, ?_, h2, h3⟩; simp only [h, if_false]
theorem meet_a (w0 : World) : Fn Tryd.prog 6 [.agg #[.int .i64 0, .int .i64 0], .int .i64 5000, .agg #[.int .i64 6000, .int .i64 0], .int .i64 5000, .int .i64 1000] w0 [] (fun v _ =>
    v = .tuple #[.agg #[.int .i64 3000, .int .i64 4000], .agg #[.int .i64 3000, .int .i64 (-4000)], .nilIface]) :=
  (Meet_or 0 0 5000 6000 0 5000 1000 w0).mono fun v w' _ h => by
    have e : meetE 0 0 5000 6000 0 5000 1000 = 0 := by kernel_rfl
    rcases h with ⟨_, h⟩ | ⟨h, _⟩
    · have e1 : (mP1 0 0 5000 6000 0 5000).x = 3000 := by kernel_rfl
      have e2 : (mP1 0 0 5000 6000 0 5000).y = 4000 := by kernel_rfl
      have e3 : (mP2 0 0 5000 6000 0 5000).x = 3000 := by kernel_rfl
      have e4 : (mP2 0 0 5000 6000 0 5000).y = -4000 := by kernel_rfl
      rw [h, e1, e2, e3, e4]
    · exact absurd e h
theorem meet_b (w0 : World) : Fn Tryd.prog 6 [.agg #[.int .i64 0, .int .i64 0], .int .i64 5000, .agg #[.int .i64 6, .int .i64 0], .int .i64 5000, .int .i64 1000] w0 [] (fun v w' =>
    ∃ b, v = .tuple #[.agg #[.int .i64 0, .int .i64 0], .agg #[.int .i64 0, .int .i64 0], .iface 80 (.pointer (some ⟨b, 0, none⟩))] ∧ w'.heap[b]? = some (errObj ⟨#[99, 105, 114, 99, 108, 101]⟩ 33) ∧ w0.heap.size ≤ b) :=
  (Meet_or 0 0 5000 6 0 5000 1000 w0).mono fun v w' _ h => by
    have e : meetE 0 0 5000 6 0 5000 1000 = 33 := by kernel_rfl
    rw [e] at h
    rcases h with ⟨h, _⟩ | ⟨_, h⟩
    · cases h
    · exact h
theorem pick_a (w0 : World) : Fn Tryd.prog 10 [.agg #[.int .i64 3000, .int .i64 4000], .agg #[.int .i64 3000, .int .i64 (-4000)], .agg #[.int .i64 0, .int .i64 4000], .int .i64 3000, .int .i64 10] w0 [] (fun v _ =>
    v = .tuple #[.agg #[.int .i64 3000, .int .i64 4000], .nilIface]) :=
  (Pick_ok 3000 4000 3000 (-4000) 0 4000 3000 10 w0).mono fun v w' _ ⟨u, hu, hv⟩ => by
    have e : pickE 3000 4000 3000 (-4000) 0 4000 3000 10 = 0 := by kernel_rfl
    have e2 : pickA 3000 4000 3000 (-4000) 0 4000 3000 10 = true := by kernel_rfl
    rw [hv, hu.zero e, e, e2]
    rfl
theorem pt_eq1 (w : World) : (binOp .eql 25 (.agg #[.int .i64 3000, .int .i64 4000]) (.agg #[.int .i64 3000, .int .i64 4000])).run Tryd.prog w = .ok (.bool true) w := by kernel_rfl
theorem pt_eq2 (w : World) : (binOp .eql 25 (.agg #[.int .i64 3000, .int .i64 (-4000)]) (.agg #[.int .i64 3000, .int .i64 (-4000)])).run Tryd.prog w = .ok (.bool true) w := by kernel_rfl

set_option maxRecDepth 20000 in
set_option maxHeartbeats 1000000 in
theorem known22 {w0 : World} (hG : Hid (Glob w0))  :
    Fn Tryd.prog 5 [] w0 [] (fun v _ => v = .bool true) := by
  refine x_enter' (n := 55) Tryd.func5 rfl rfl (Nat.le_of_ble_eq_true rfl) fun a w st => ?_
  refine x_seq ?_
  refine x_region ?_
  refine xseg 1 st rfl ?_
  clear st a; intro a st
  refine x_nil ?_
  refine x_seq ?_
  refine x_region ?_
  refine x_run (v := .agg (#[.int .i64 0, .int .i64 0])) st (r_build0 bz25 rfl) rfl rfl (by decide) ?_
  clear st a; intro a st
  refine x_run (v := .agg (#[.int .i64 6000, .int .i64 0])) st (r_build st rfl rfl (bld25_0i64 _ _)) rfl rfl (by decide) ?_
  clear st a; intro a st
  refine x_call st rfl rfl ent6 rfl rfl (by decide) ((meet_a _)) ?_
  intro a1 w1 v1 hk1 hv hn st1; subst hv
  clear hn hk1 st a w; revert st1; revert a1; revert w1; intro w a st
  refine xseg 4 st rfl ?_
  clear st a; intro a st
  refine x_alloc st rfl z25 rfl rfl (by decide) ?_
  clear st a; intro a w b1 st
  refine x_alloc st rfl z25 rfl rfl (by decide) ?_
  clear st a; intro a w b2 st
  refine x_store st 1 rfl rfl rfl rfl (run_storeW (st.at 1 rfl) s25 rfl (by first | rfl | simp [Value.oneCell'])) rfl rfl ?_
  clear st a w; intro a w st
  replace st := st.cast rfl (show _ = ([(b2, .cells (#[.int .i64 0, .int .i64 0]) 25 (0, 0)), (b1, .cells (#[.int .i64 3000, .int .i64 4000]) 25 (0, 0))] : Hp) from rfl)
  refine x_store st 0 rfl rfl rfl rfl (run_storeW (st.at 0 rfl) s25 rfl (by first | rfl | simp [Value.oneCell'])) rfl rfl ?_
  clear st a w; intro a w st
  replace st := st.cast rfl (show _ = ([(b2, .cells (#[.int .i64 3000, .int .i64 (-4000)]) 25 (0, 0)), (b1, .cells (#[.int .i64 3000, .int .i64 4000]) 25 (0, 0))] : Hp) from rfl)
  refine xseg 1 st rfl ?_
  clear st a; intro a st
  refine x_nil ?_
  refine x_seq ?_
  refine x_region ?_
  refine x_run (v := .agg (#[.int .i64 3000, .int .i64 4000])) st (r_load st rfl rfl (run_loadW (st.at 1 rfl) r25.choose_spec.1 r25.choose_spec.2 s25 rfl)) rfl rfl (by decide) ?_
  clear st a; intro a st
  refine x_run (v := .agg (#[.int .i64 3000, .int .i64 (-4000)])) st (r_load st rfl rfl (run_loadW (st.at 0 rfl) r25.choose_spec.1 r25.choose_spec.2 s25 rfl)) rfl rfl (by decide) ?_
  clear st a; intro a st
  refine x_run (v := .agg (#[.int .i64 0, .int .i64 4000])) st (r_build st rfl rfl (bld25_1i64 _ _)) rfl rfl (by decide) ?_
  clear st a; intro a st
  refine x_call st rfl rfl ent10 rfl rfl (by decide) ((pick_a _)) ?_
  intro a1 w1 v1 hk1 hv hn st1; subst hv
  clear hn hk1 st a w; revert st1; revert a1; revert w1; intro w a st
  refine xseg 3 st rfl ?_
  clear st a; intro a st
  refine x_alloc st rfl z25 rfl rfl (by decide) ?_
  clear st a; intro a w b3 st
  refine x_store st 0 rfl rfl rfl rfl (run_storeW (st.at 0 rfl) s25 rfl (by first | rfl | simp [Value.oneCell'])) rfl rfl ?_
  clear st a w; intro a w st
  replace st := st.cast rfl (show _ = ([(b3, .cells (#[.int .i64 3000, .int .i64 4000]) 25 (0, 0)), (b2, .cells (#[.int .i64 3000, .int .i64 (-4000)]) 25 (0, 0)), (b1, .cells (#[.int .i64 3000, .int .i64 4000]) 25 (0, 0))] : Hp) from rfl)
  refine xseg 1 st rfl ?_
  clear st a; intro a st
  refine x_nil ?_
  refine x_seq ?_
  refine x_region ?_
  refine x_run (v := .agg (#[.int .i64 0, .int .i64 0])) st (r_build0 bz25 rfl) rfl rfl (by decide) ?_
  clear st a; intro a st
  refine x_run (v := .agg (#[.int .i64 6, .int .i64 0])) st (r_build st rfl rfl (bld25_0i64 _ _)) rfl rfl (by decide) ?_
  clear st a; intro a st
  refine x_call st rfl rfl ent6 rfl rfl (by decide) (meet_b _) ?_
  intro a1 w1 v1 hk1 hv hn st1; obtain ⟨be, rfl, hbx, hlx⟩ := hv; replace st1 := st1.add hbx (hn be hlx); clear hn hk1 hbx hlx st a w; revert st1; revert a1; revert w1; intro w a st
  refine xseg 4 st rfl ?_
  clear st a; intro a st
  refine x_alloc st rfl z25 rfl rfl (by decide) ?_
  clear st a; intro a w b4 st
  refine x_alloc st rfl z25 rfl rfl (by decide) ?_
  clear st a; intro a w b5 st
  refine x_store st 1 rfl rfl rfl rfl (run_storeW (st.at 1 rfl) s25 rfl (by first | rfl | simp [Value.oneCell'])) rfl rfl ?_
  clear st a w; intro a w st
  replace st := st.cast rfl (show _ = ([(b5, .cells (#[.int .i64 0, .int .i64 0]) 25 (0, 0)), (b4, .cells (#[.int .i64 0, .int .i64 0]) 25 (0, 0)), (be, .cells (#[.string (⟨#[99, 105, 114, 99, 108, 101]⟩), .iface 44 (.int .i64 33)]) 82 (0, 0)), (b3, .cells (#[.int .i64 3000, .int .i64 4000]) 25 (0, 0)), (b2, .cells (#[.int .i64 3000, .int .i64 (-4000)]) 25 (0, 0)), (b1, .cells (#[.int .i64 3000, .int .i64 4000]) 25 (0, 0))] : Hp) from rfl)
  refine x_store st 0 rfl rfl rfl rfl (run_storeW (st.at 0 rfl) s25 rfl (by first | rfl | simp [Value.oneCell'])) rfl rfl ?_
  clear st a w; intro a w st
  replace st := st.cast rfl (show _ = ([(b5, .cells (#[.int .i64 0, .int .i64 0]) 25 (0, 0)), (b4, .cells (#[.int .i64 0, .int .i64 0]) 25 (0, 0)), (be, .cells (#[.string (⟨#[99, 105, 114, 99, 108, 101]⟩), .iface 44 (.int .i64 33)]) 82 (0, 0)), (b3, .cells (#[.int .i64 3000, .int .i64 4000]) 25 (0, 0)), (b2, .cells (#[.int .i64 3000, .int .i64 (-4000)]) 25 (0, 0)), (b1, .cells (#[.int .i64 3000, .int .i64 4000]) 25 (0, 0))] : Hp) from rfl)
  refine xseg 1 st rfl ?_
  clear st a; intro a st
  refine x_nil ?_
  refine x_seq ?_
  refine x_region ?_
  refine xseg 1 st rfl ?_
  clear st a; intro a st
  refine x_run (v := .bool true) st (r_eqNil (neq := false) (b := true) st rfl rfl (.inl ⟨rfl, rfl⟩) ui27) rfl rfl (by decide) ?_
  clear st a; intro a st
  refine xseg 1 st rfl ?_
  clear st a; intro a st
  refine x_unguard st (b := true) rfl rfl rfl ?_
  refine x_run (v := .agg (#[.int .i64 3000, .int .i64 4000])) st (r_load st rfl rfl (run_loadW (st.at 5 rfl) r25.choose_spec.1 r25.choose_spec.2 s25 rfl)) rfl rfl (by decide) ?_
  clear st a; intro a st
  refine x_unguard st (b := true) rfl rfl rfl ?_
  refine x_run (v := .agg (#[.int .i64 3000, .int .i64 4000])) st (r_build st rfl rfl (bld25_0i64_1i64 _ _ _)) rfl rfl (by decide) ?_
  clear st a; intro a st
  refine x_unguard st (b := true) rfl rfl rfl ?_
  refine x_run (v := .bool true) st (r_eqAgg st rfl rfl rfl qpt (pt_eq1 _)) rfl rfl (by decide) ?_
  clear st a; intro a st
  refine xseg 2 st rfl ?_
  clear st a; intro a st
  refine x_unguard st (b := true) rfl rfl rfl ?_
  refine x_run (v := .agg (#[.int .i64 3000, .int .i64 (-4000)])) st (r_load st rfl rfl (run_loadW (st.at 4 rfl) r25.choose_spec.1 r25.choose_spec.2 s25 rfl)) rfl rfl (by decide) ?_
  clear st a; intro a st
  refine x_unguard st (b := true) rfl rfl rfl ?_
  refine x_run (v := .agg (#[.int .i64 3000, .int .i64 (-4000)])) st (r_build st rfl rfl (bld25_0i64_1i64 _ _ _)) rfl rfl (by decide) ?_
  clear st a; intro a st
  refine x_unguard st (b := true) rfl rfl rfl ?_
  refine x_run (v := .bool true) st (r_eqAgg st rfl rfl rfl qpt (pt_eq2 _)) rfl rfl (by decide) ?_
  clear st a; intro a st
  refine xseg 2 st rfl ?_
  clear st a; intro a st
  refine x_unguard st (b := true) rfl rfl rfl ?_
  refine xseg 1 st rfl ?_
  clear st a; intro a st
  refine x_unguard st (b := true) rfl rfl rfl ?_
  refine x_run (v := .bool true) st (r_eqNil (neq := false) (b := true) st rfl rfl (.inl ⟨rfl, rfl⟩) ui27) rfl rfl (by decide) ?_
  clear st a; intro a st
  refine xseg 2 st rfl ?_
  clear st a; intro a st
  refine x_unguard st (b := true) rfl rfl rfl ?_
  refine x_run (v := .agg (#[.int .i64 3000, .int .i64 4000])) st (r_load st rfl rfl (run_loadW (st.at 3 rfl) r25.choose_spec.1 r25.choose_spec.2 s25 rfl)) rfl rfl (by decide) ?_
  clear st a; intro a st
  refine x_unguard st (b := true) rfl rfl rfl ?_
  refine x_run (v := .agg (#[.int .i64 3000, .int .i64 4000])) st (r_load st rfl rfl (run_loadW (st.at 5 rfl) r25.choose_spec.1 r25.choose_spec.2 s25 rfl)) rfl rfl (by decide) ?_
  clear st a; intro a st
  refine x_unguard st (b := true) rfl rfl rfl ?_
  refine x_run (v := .bool true) st (r_eqAgg st rfl rfl rfl qpt (pt_eq1 _)) rfl rfl (by decide) ?_
  clear st a; intro a st
  refine xseg 2 st rfl ?_
  clear st a; intro a st
  refine x_unguard st (b := true) rfl rfl rfl ?_
  refine xseg 1 st rfl ?_
  clear st a; intro a st
  refine x_unguard st (b := true) rfl rfl rfl ?_
  refine x_call st rfl rfl ent11 rfl rfl (by decide) ((says22_t (hG.out.keep st.keeps (by simp)) (st.at 2 rfl) (by decide))) ?_
  intro a1 w1 v1 hk1 hv hn st1; subst hv
  clear hn hk1 st a w; revert st1; revert a1; revert w1; intro w a st
  refine xseg 2 st rfl ?_
  clear st a; intro a st
  refine x_nil ?_
  refine x_wpret ?_
  exact x_retp st [.bool true] rfl ⟨rfl, trivial⟩ rfl (rfl)

set_option maxRecDepth 20000 in
set_option maxHeartbeats 1000000 in
theorem sides_all {w0 : World} (d r s : Nat) (hd : d < 65536) (hr : r < 65536) (hs : s < 65536) (hG : Hid (Glob w0))  :
    Fn Tryd.prog 3 [.int .u16 ((d : Nat) : Int), .int .u16 ((r : Nat) : Int), .int .u16 ((s : Nat) : Int)] w0 [] (fun v _ => v = .bool true) := by
  refine x_enter' (n := 63) Tryd.func3 rfl rfl (Nat.le_of_ble_eq_true rfl) fun a w st => ?_
  refine x_seq ?_
  refine x_region ?_
  refine xseg 1 st rfl ?_
  clear st a; intro a st
  refine x_nil ?_
  refine x_seq ?_
  refine x_seq ?_
  refine x_region ?_
  refine x_call st rfl rfl ent5 rfl rfl (by decide) ((known22 (hG.out.keep st.keeps (by simp)))) ?_
  intro a1 w1 v1 hk1 hv hn st1; subst hv
  clear hn hk1 st a w; revert st1; revert a1; revert w1; intro w a st
  refine xseg 1 st rfl ?_
  clear st a; intro a st
  refine x_nil ?_
  refine x_condF st rfl ?_
  refine wp_skip ?_
  refine x_seq ?_
  refine x_region ?_
  refine xseg 1 st rfl ?_
  clear st a; intro a st
  refine x_run (v := .int .i64 ((d : Nat) : Int)) st (r_conv (z := ((d : Nat) : Int)) st rfl rfl u22 u2 (cvi64 (by omega))) rfl rfl (by decide) ?_
  clear st a; intro a st
  refine xp st (.int .i64 (((d : Nat) : Int) + 1000)) rfl (wi64 (by omega) rfl) rfl rfl (by decide) ?_
  clear st a; intro a st
  refine xseg 1 st rfl ?_
  clear st a; intro a st
  refine x_nil ?_
  refine x_seq ?_
  refine x_region ?_
  refine x_run (v := .agg (#[.int .i64 0, .int .i64 0])) st (r_build0 bz25 rfl) rfl rfl (by decide) ?_
  clear st a; intro a st
  refine xseg 1 st rfl ?_
  clear st a; intro a st
  refine x_run (v := .int .i64 ((r : Nat) : Int)) st (r_conv (z := ((r : Nat) : Int)) st rfl rfl u22 u2 (cvi64 (by omega))) rfl rfl (by decide) ?_
  clear st a; intro a st
  refine xseg 1 st rfl ?_
  clear st a; intro a st
  refine x_run (v := .agg (#[.int .i64 (((d : Nat) : Int) + 1000), .int .i64 0])) st (r_build st rfl rfl (bld25_0i64 _ _)) rfl rfl (by decide) ?_
  clear st a; intro a st
  refine xseg 1 st rfl ?_
  clear st a; intro a st
  refine x_run (v := .int .i64 ((s : Nat) : Int)) st (r_conv (z := ((s : Nat) : Int)) st rfl rfl u22 u2 (cvi64 (by omega))) rfl rfl (by decide) ?_
  clear st a; intro a st
  refine x_call st rfl rfl ent6 rfl rfl (by decide) (Meet_or 0 0 ((r : Nat) : Int) (((d : Nat) : Int) + 1000) 0 ((s : Nat) : Int) 1000 _) ?_
  intro a1 w1 v1 hk1 hv hn st1
  rcases hv with ⟨he, rfl⟩ | ⟨he, be, rfl, hbx, hlx⟩
  · replace he : Hid (_ = _) := he; clear hn hk1 st a w; revert st1; revert a1; revert w1; intro w a st
    refine xseg 4 st rfl ?_
    clear st a; intro a st
    refine x_alloc st rfl z25 rfl rfl (by decide) ?_
    clear st a; intro a w b1 st
    refine x_alloc st rfl z25 rfl rfl (by decide) ?_
    clear st a; intro a w b2 st
    refine x_store st 1 rfl rfl rfl rfl (run_storeW (st.at 1 rfl) s25 rfl (by first | rfl | simp [Value.oneCell'])) rfl rfl ?_
    clear st a w; intro a w st
    replace st := st.cast rfl (show _ = ([(b2, .cells (#[.int .i64 0, .int .i64 0]) 25 (0, 0)), (b1, .cells (#[.int .i64 ((mP1 0 0 ((r : Nat) : Int) (((d : Nat) : Int) + 1000) 0 ((s : Nat) : Int)).x), .int .i64 ((mP1 0 0 ((r : Nat) : Int) (((d : Nat) : Int) + 1000) 0 ((s : Nat) : Int)).y)]) 25 (0, 0))] : Hp) from rfl)
    refine x_store st 0 rfl rfl rfl rfl (run_storeW (st.at 0 rfl) s25 rfl (by first | rfl | simp [Value.oneCell'])) rfl rfl ?_
    clear st a w; intro a w st
    replace st := st.cast rfl (show _ = ([(b2, .cells (#[.int .i64 ((mP2 0 0 ((r : Nat) : Int) (((d : Nat) : Int) + 1000) 0 ((s : Nat) : Int)).x), .int .i64 ((mP2 0 0 ((r : Nat) : Int) (((d : Nat) : Int) + 1000) 0 ((s : Nat) : Int)).y)]) 25 (0, 0)), (b1, .cells (#[.int .i64 ((mP1 0 0 ((r : Nat) : Int) (((d : Nat) : Int) + 1000) 0 ((s : Nat) : Int)).x), .int .i64 ((mP1 0 0 ((r : Nat) : Int) (((d : Nat) : Int) + 1000) 0 ((s : Nat) : Int)).y)]) 25 (0, 0))] : Hp) from rfl)
    refine xseg 1 st rfl ?_
    clear st a; intro a st
    refine x_nil ?_
    refine x_seq ?_
    obtain ⟨l1, l2, l3, l4, l5, l6, l7⟩ := sides_law he.out (by omega)
    refine x_region ?_
    refine xseg 1 st rfl ?_
    clear st a; intro a st
    refine x_run (v := .bool false) st (r_eqNil (neq := true) (b := true) st rfl rfl (.inl ⟨rfl, rfl⟩) ui27) rfl rfl (by decide) ?_
    clear st a; intro a st
    refine xseg 1 st rfl ?_
    clear st a; intro a st
    refine x_unguard st (b := false) rfl rfl rfl ?_
    refine x_run (v := .pointer (some ⟨b1, 0, none⟩)) st (r_field st rfl rfl o25_0) rfl rfl (by decide) ?_
    clear st a; intro a st
    refine x_unguard st (b := false) rfl rfl rfl ?_
    refine x_run (v := .int .i64 ((mP1 0 0 ((r : Nat) : Int) (((d : Nat) : Int) + 1000) 0 ((s : Nat) : Int)).x)) st (r_load st rfl rfl (run_load1 (st.at 1 rfl) u2 rfl rfl)) rfl rfl (by decide) ?_
    clear st a; intro a st
    refine x_unguard st (b := false) rfl rfl rfl ?_
    refine x_run (v := .pointer (some ⟨b2, 0, none⟩)) st (r_field st rfl rfl o25_0) rfl rfl (by decide) ?_
    clear st a; intro a st
    refine x_unguard st (b := false) rfl rfl rfl ?_
    refine x_run (v := .int .i64 ((mP2 0 0 ((r : Nat) : Int) (((d : Nat) : Int) + 1000) 0 ((s : Nat) : Int)).x)) st (r_load st rfl rfl (run_load1 (st.at 0 rfl) u2 rfl rfl)) rfl rfl (by decide) ?_
    clear st a; intro a st
    refine x_unguard st (b := false) rfl rfl rfl ?_
    refine xp st (.bool true) rfl (beq (by rw [l1]; exact beq_self_eq_true _)) rfl rfl (by decide) ?_
    clear st a; intro a st
    refine x_unguard st (b := false) rfl rfl rfl ?_
    refine xseg 1 st rfl ?_
    clear st a; intro a st
    refine x_unguard st (b := true) rfl rfl rfl ?_
    refine x_run (v := .pointer (some ⟨b1, 1, none⟩)) st (r_field st rfl rfl o25_1) rfl rfl (by decide) ?_
    clear st a; intro a st
    refine x_unguard st (b := true) rfl rfl rfl ?_
    refine x_run (v := .int .i64 ((mP1 0 0 ((r : Nat) : Int) (((d : Nat) : Int) + 1000) 0 ((s : Nat) : Int)).y)) st (r_load st rfl rfl (run_load1 (st.at 1 rfl) u2 rfl rfl)) rfl rfl (by decide) ?_
    clear st a; intro a st
    refine x_unguard st (b := true) rfl rfl rfl ?_
    refine xp st (.bool true) rfl (beq (decide_eq_true (by omega))) rfl rfl (by decide) ?_
    clear st a; intro a st
    refine x_unguard st (b := false) rfl rfl rfl ?_
    refine xseg 1 st rfl ?_
    clear st a; intro a st
    refine x_unguard st (b := false) rfl rfl rfl ?_
    refine xseg 1 st rfl ?_
    clear st a; intro a st
    refine x_unguard st (b := true) rfl rfl rfl ?_
    refine x_run (v := .pointer (some ⟨b2, 1, none⟩)) st (r_field st rfl rfl o25_1) rfl rfl (by decide) ?_
    clear st a; intro a st
    refine x_unguard st (b := true) rfl rfl rfl ?_
    refine x_run (v := .int .i64 ((mP2 0 0 ((r : Nat) : Int) (((d : Nat) : Int) + 1000) 0 ((s : Nat) : Int)).y)) st (r_load st rfl rfl (run_load1 (st.at 0 rfl) u2 rfl rfl)) rfl rfl (by decide) ?_
    clear st a; intro a st
    refine x_unguard st (b := true) rfl rfl rfl ?_
    refine xp st (.bool true) rfl (beq (decide_eq_true (by omega))) rfl rfl (by decide) ?_
    clear st a; intro a st
    refine x_unguard st (b := false) rfl rfl rfl ?_
    refine xseg 1 st rfl ?_
    clear st a; intro a st
    refine x_unguard st (b := false) rfl rfl rfl ?_
    refine xseg 1 st rfl ?_
    clear st a; intro a st
    refine x_unguard st (b := true) rfl rfl rfl ?_
    refine x_run (v := .pointer (some ⟨b1, 1, none⟩)) st (r_field st rfl rfl o25_1) rfl rfl (by decide) ?_
    clear st a; intro a st
    refine x_unguard st (b := true) rfl rfl rfl ?_
    refine x_run (v := .int .i64 ((mP1 0 0 ((r : Nat) : Int) (((d : Nat) : Int) + 1000) 0 ((s : Nat) : Int)).y)) st (r_load st rfl rfl (run_load1 (st.at 1 rfl) u2 rfl rfl)) rfl rfl (by decide) ?_
    clear st a; intro a st
    refine x_unguard st (b := true) rfl rfl rfl ?_
    refine x_run (v := .pointer (some ⟨b2, 1, none⟩)) st (r_field st rfl rfl o25_1) rfl rfl (by decide) ?_
    clear st a; intro a st
    refine x_unguard st (b := true) rfl rfl rfl ?_
    refine x_run (v := .int .i64 ((mP2 0 0 ((r : Nat) : Int) (((d : Nat) : Int) + 1000) 0 ((s : Nat) : Int)).y)) st (r_load st rfl rfl (run_load1 (st.at 0 rfl) u2 rfl rfl)) rfl rfl (by decide) ?_
    clear st a; intro a st
    refine x_unguard st (b := true) rfl rfl rfl ?_
    refine xp st (.int .i64 ((mP1 0 0 ((r : Nat) : Int) (((d : Nat) : Int) + 1000) 0 ((s : Nat) : Int)).y + (mP2 0 0 ((r : Nat) : Int) (((d : Nat) : Int) + 1000) 0 ((s : Nat) : Int)).y)) rfl (wi64 (by omega) rfl) rfl rfl (by decide) ?_
    clear st a; intro a st
    refine x_unguard st (b := true) rfl rfl rfl ?_
    refine xp st (.bool true) rfl (beq (decide_eq_true (by omega))) rfl rfl (by decide) ?_
    clear st a; intro a st
    refine x_unguard st (b := false) rfl rfl rfl ?_
    refine xseg 1 st rfl ?_
    clear st a; intro a st
    refine x_unguard st (b := false) rfl rfl rfl ?_
    refine xseg 1 st rfl ?_
    clear st a; intro a st
    refine x_unguard st (b := true) rfl rfl rfl ?_
    refine x_run (v := .pointer (some ⟨b1, 1, none⟩)) st (r_field st rfl rfl o25_1) rfl rfl (by decide) ?_
    clear st a; intro a st
    refine x_unguard st (b := true) rfl rfl rfl ?_
    refine x_run (v := .int .i64 ((mP1 0 0 ((r : Nat) : Int) (((d : Nat) : Int) + 1000) 0 ((s : Nat) : Int)).y)) st (r_load st rfl rfl (run_load1 (st.at 1 rfl) u2 rfl rfl)) rfl rfl (by decide) ?_
    clear st a; intro a st
    refine x_unguard st (b := true) rfl rfl rfl ?_
    refine x_run (v := .pointer (some ⟨b2, 1, none⟩)) st (r_field st rfl rfl o25_1) rfl rfl (by decide) ?_
    clear st a; intro a st
    refine x_unguard st (b := true) rfl rfl rfl ?_
    refine x_run (v := .int .i64 ((mP2 0 0 ((r : Nat) : Int) (((d : Nat) : Int) + 1000) 0 ((s : Nat) : Int)).y)) st (r_load st rfl rfl (run_load1 (st.at 0 rfl) u2 rfl rfl)) rfl rfl (by decide) ?_
    clear st a; intro a st
    refine x_unguard st (b := true) rfl rfl rfl ?_
    refine xp st (.int .i64 ((mP1 0 0 ((r : Nat) : Int) (((d : Nat) : Int) + 1000) 0 ((s : Nat) : Int)).y + (mP2 0 0 ((r : Nat) : Int) (((d : Nat) : Int) + 1000) 0 ((s : Nat) : Int)).y)) rfl (wi64 (by omega) rfl) rfl rfl (by decide) ?_
    clear st a; intro a st
    refine x_unguard st (b := true) rfl rfl rfl ?_
    refine xp st (.bool true) rfl (beq (decide_eq_true (by omega))) rfl rfl (by decide) ?_
    clear st a; intro a st
    refine x_unguard st (b := false) rfl rfl rfl ?_
    refine xseg 3 st rfl ?_
    clear st a; intro a st
    refine x_nil ?_
    refine x_wpret ?_
    exact x_retp st [.bool true] rfl ⟨rfl, trivial⟩ rfl (rfl)
  · replace st1 := st1.add hbx (hn be hlx); replace he : Hid (_ ≠ _) := he; clear hn hk1 hbx hlx st a w; revert st1; revert a1; revert w1; intro w a st
    refine xseg 4 st rfl ?_
    clear st a; intro a st
    refine x_alloc st rfl z25 rfl rfl (by decide) ?_
    clear st a; intro a w b3 st
    refine x_alloc st rfl z25 rfl rfl (by decide) ?_
    clear st a; intro a w b4 st
    refine x_store st 1 rfl rfl rfl rfl (run_storeW (st.at 1 rfl) s25 rfl (by first | rfl | simp [Value.oneCell'])) rfl rfl ?_
    clear st a w; intro a w st
    replace st := st.cast rfl (show _ = ([(b4, .cells (#[.int .i64 0, .int .i64 0]) 25 (0, 0)), (b3, .cells (#[.int .i64 0, .int .i64 0]) 25 (0, 0)), (be, .cells (#[.string (⟨#[99, 105, 114, 99, 108, 101]⟩), .iface 44 (.int .i64 (meetE 0 0 ((r : Nat) : Int) (((d : Nat) : Int) + 1000) 0 ((s : Nat) : Int) 1000))]) 82 (0, 0))] : Hp) from rfl)
    refine x_store st 0 rfl rfl rfl rfl (run_storeW (st.at 0 rfl) s25 rfl (by first | rfl | simp [Value.oneCell'])) rfl rfl ?_
    clear st a w; intro a w st
    replace st := st.cast rfl (show _ = ([(b4, .cells (#[.int .i64 0, .int .i64 0]) 25 (0, 0)), (b3, .cells (#[.int .i64 0, .int .i64 0]) 25 (0, 0)), (be, .cells (#[.string (⟨#[99, 105, 114, 99, 108, 101]⟩), .iface 44 (.int .i64 (meetE 0 0 ((r : Nat) : Int) (((d : Nat) : Int) + 1000) 0 ((s : Nat) : Int) 1000))]) 82 (0, 0))] : Hp) from rfl)
    refine xseg 1 st rfl ?_
    clear st a; intro a st
    refine x_nil ?_
    refine x_seq ?_
    refine x_region ?_
    refine xseg 1 st rfl ?_
    clear st a; intro a st
    refine x_run (v := .bool true) st (r_eqNil (neq := true) (b := false) st rfl rfl (.inr ⟨⟨_, _, rfl⟩, rfl⟩) ui27) rfl rfl (by decide) ?_
    clear st a; intro a st
    refine xseg 1 st rfl ?_
    clear st a; intro a st
    refine x_skip st (b := false) (c := true) rfl rfl rfl (by decide) rfl (by decide) ?_
    clear st a; intro a st
    refine x_skip st (b := false) (c := true) rfl rfl rfl (by decide) rfl (by decide) ?_
    clear st a; intro a st
    refine x_skip st (b := false) (c := true) rfl rfl rfl (by decide) rfl (by decide) ?_
    clear st a; intro a st
    refine x_skip st (b := false) (c := true) rfl rfl rfl (by decide) rfl (by decide) ?_
    clear st a; intro a st
    refine x_skip st (b := false) (c := true) rfl rfl rfl (by decide) rfl (by decide) ?_
    clear st a; intro a st
    refine x_skip st (b := false) (c := true) rfl rfl rfl (by decide) rfl (by decide) ?_
    clear st a; intro a st
    refine x_skipU st (b := true) rfl rfl rfl rfl (by decide) ?_
    clear st a; intro a st
    refine x_skipU st (b := true) rfl rfl rfl rfl (by decide) ?_
    clear st a; intro a st
    refine x_skipU st (b := true) rfl rfl rfl rfl (by decide) ?_
    clear st a; intro a st
    refine x_skip st (b := false) (c := true) rfl rfl rfl (by decide) rfl (by decide) ?_
    clear st a; intro a st
    refine x_skip st (b := false) (c := true) rfl rfl rfl (by decide) rfl (by decide) ?_
    clear st a; intro a st
    refine x_skipU st (b := true) rfl rfl rfl rfl (by decide) ?_
    clear st a; intro a st
    refine x_skipU st (b := true) rfl rfl rfl rfl (by decide) ?_
    clear st a; intro a st
    refine x_skipU st (b := true) rfl rfl rfl rfl (by decide) ?_
    clear st a; intro a st
    refine x_skip st (b := false) (c := true) rfl rfl rfl (by decide) rfl (by decide) ?_
    clear st a; intro a st
    refine x_skip st (b := false) (c := true) rfl rfl rfl (by decide) rfl (by decide) ?_
    clear st a; intro a st
    refine x_skipU st (b := true) rfl rfl rfl rfl (by decide) ?_
    clear st a; intro a st
    refine x_skipU st (b := true) rfl rfl rfl rfl (by decide) ?_
    clear st a; intro a st
    refine x_skipU st (b := true) rfl rfl rfl rfl (by decide) ?_
    clear st a; intro a st
    refine x_skipU st (b := true) rfl rfl rfl rfl (by decide) ?_
    clear st a; intro a st
    refine x_skipU st (b := true) rfl rfl rfl rfl (by decide) ?_
    clear st a; intro a st
    refine x_skipU st (b := true) rfl rfl rfl rfl (by decide) ?_
    clear st a; intro a st
    refine x_skip st (b := false) (c := true) rfl rfl rfl (by decide) rfl (by decide) ?_
    clear st a; intro a st
    refine x_skip st (b := false) (c := true) rfl rfl rfl (by decide) rfl (by decide) ?_
    clear st a; intro a st
    refine x_skipU st (b := true) rfl rfl rfl rfl (by decide) ?_
    clear st a; intro a st
    refine x_skipU st (b := true) rfl rfl rfl rfl (by decide) ?_
    clear st a; intro a st
    refine x_skipU st (b := true) rfl rfl rfl rfl (by decide) ?_
    clear st a; intro a st
    refine x_skipU st (b := true) rfl rfl rfl rfl (by decide) ?_
    clear st a; intro a st
    refine x_skipU st (b := true) rfl rfl rfl rfl (by decide) ?_
    clear st a; intro a st
    refine x_skipU st (b := true) rfl rfl rfl rfl (by decide) ?_
    clear st a; intro a st
    refine x_skip st (b := false) (c := true) rfl rfl rfl (by decide) rfl (by decide) ?_
    clear st a; intro a st
    refine xseg 2 st rfl ?_
    clear st a; intro a st
    refine x_nil ?_
    refine x_wpret ?_
    exact x_retp st [.bool true] rfl ⟨rfl, trivial⟩ rfl (rfl)

end Go.Proofs.YtnkbhmonceiocaaDoor
