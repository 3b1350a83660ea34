/-
  errors.Is at an error of the package fault; buffer.third, buffer.Find; leadlinehelp.Seen.
-/
import Derived.Test.YtnkbhmonceiocaaDoorBuf
import Derived.Test.YtnkbhmonceiocaaDoorPtEq
import Derived.Test.YtnkbhmonceiocaaDoorFindP
import Derived.Test.YtnkbhmonceiocaaDoorDrawB
namespace Go.Proofs.YtnkbhmonceiocaaDoor
open Go Go.RowKit
namespace FFind
theorem bld25_0i64 (x0 : Int) (w : World) : (Instr.build 25 #[(0, .int .i64 x0)]).run Tryd.prog w = .ok (.agg #[.int .i64 x0, .int .i64 0]) w := by kernel_rfl
theorem bld25_0i64_1i64 (x0 : Int) (x1 : Int) (w : World) : (Instr.build 25 #[(0, .int .i64 x0), (1, .int .i64 x1)]).run Tryd.prog w = .ok (.agg #[.int .i64 x0, .int .i64 x1]) w := by kernel_rfl
theorem bld25_1i64 (x1 : Int) (w : World) : (Instr.build 25 #[(1, .int .i64 x1)]).run Tryd.prog w = .ok (.agg #[.int .i64 0, .int .i64 x1]) w := by kernel_rfl
theorem bz25 (w : World) : (Instr.build 25 #[]).run Tryd.prog w = .ok (.agg (#[.int .i64 0, .int .i64 0])) w := by kernel_rfl
theorem ent10 (args : Array Value) (w : World) : (callFunc 10 args).run Tryd.prog w = .ok (.enter 10 args) w := enters_at Tryd.func10 (by kernel_rfl) rfl args w
theorem ent20 (args : Array Value) (w : World) : (callFunc 20 args).run Tryd.prog w = .ok (.enter 20 args) w := enters_at Tryd.func20 (by kernel_rfl) rfl args w
theorem ent21 (args : Array Value) (w : World) : (callFunc 21 args).run Tryd.prog w = .ok (.enter 21 args) w := enters_at Tryd.func21 (by kernel_rfl) rfl args w
theorem ent34 (args : Array Value) (w : World) : (callFunc 34 args).run Tryd.prog w = .ok (.enter 34 args) w := enters_at Tryd.func34 (by kernel_rfl) rfl args w
theorem ent35 (args : Array Value) (w : World) : (callFunc 35 args).run Tryd.prog w = .ok (.enter 35 args) w := enters_at Tryd.func35 (by kernel_rfl) rfl args w
theorem ent47 (args : Array Value) (w : World) : (callFunc 47 args).run Tryd.prog w = .ok (.enter 47 args) w := enters_at Tryd.func47 (by kernel_rfl) rfl args w
theorem ent59 (args : Array Value) (w : World) : (callFunc 59 args).run Tryd.prog w = .ok (.enter 59 args) w := enters_at Tryd.func59 (by kernel_rfl) rfl args w
theorem ent6 (args : Array Value) (w : World) : (callFunc 6 args).run Tryd.prog w = .ok (.enter 6 args) w := enters_at Tryd.func6 (by kernel_rfl) rfl args w
theorem ent8 (args : Array Value) (w : World) : (callFunc 8 args).run Tryd.prog w = .ok (.enter 8 args) w := enters_at Tryd.func8 (by kernel_rfl) rfl args w
theorem mi44 (v : Value) (w : World) : (Instr.makeInterface 44 v).run Tryd.prog w = .ok (.iface 44 v) w := by kernel_rfl
theorem mixed : Tryd.prog.follows .mixedOrders = true := by kernel_rfl
theorem o36_0 : fieldOff Tryd.prog 36 0 = some 0 := by kernel_rfl
theorem o36_1 : fieldOff Tryd.prog 36 1 = some 2 := by kernel_rfl
theorem r25 : ∃ d, Tryd.prog.underlying 25 = some d ∧ d.isRow = true := ⟨_, Tryd.underlying25, by kernel_rfl⟩
theorem r36 : ∃ d, Tryd.prog.underlying 36 = some d ∧ d.isRow = true := ⟨_, Tryd.underlying36, by kernel_rfl⟩
theorem s25 : (Tryd.prog.info? 25).map (·.size) = some 2 := by kernel_rfl
theorem s36 : (Tryd.prog.info? 36).map (·.size) = some 3 := by kernel_rfl
theorem ta44_27_124 (v : Value) (w : World) : (Instr.typeAssert (.iface 44 v) 27 124 true).run Tryd.prog w = .ok (.tuple #[.nilIface, .bool false]) w := run_typeAssert_lacksB Tryd.underlying124 (by kernel_rfl) (by kernel_rfl) v 27 w
theorem ta44_27_128 (v : Value) (w : World) : (Instr.typeAssert (.iface 44 v) 27 128 true).run Tryd.prog w = .ok (.tuple #[.nilIface, .bool false]) w := run_typeAssert_lacksB Tryd.underlying128 (by kernel_rfl) (by kernel_rfl) v 27 w
theorem ta44_27_94 (v : Value) (w : World) : (Instr.typeAssert (.iface 44 v) 27 94 true).run Tryd.prog w = .ok (.tuple #[.nilIface, .bool false]) w := run_typeAssert_lacksB Tryd.underlying94 (by kernel_rfl) (by kernel_rfl) v 27 w
theorem ta80_27_124 (v : Value) (w : World) : (Instr.typeAssert (.iface 80 v) 27 124 true).run Tryd.prog w = .ok (.tuple #[.iface 80 v, .bool true]) w := run_typeAssert_hasB Tryd.underlying124 (by kernel_rfl) v 27 w
theorem ta80_27_128 (v : Value) (w : World) : (Instr.typeAssert (.iface 80 v) 27 128 true).run Tryd.prog w = .ok (.tuple #[.nilIface, .bool false]) w := run_typeAssert_lacksB Tryd.underlying128 (by kernel_rfl) (by kernel_rfl) v 27 w
theorem u2 : Tryd.prog.underlying 2 = some (.int .i64) := by kernel_rfl
theorem u32 : Tryd.prog.underlying 32 = some (.slice 36) := by kernel_rfl
theorem ui27 : ∃ ms, Tryd.prog.underlying 27 = some (.interface ms) := ⟨_, Tryd.underlying27⟩
theorem z25 : (Tryd.prog.info? 25).bind (·.zero) = some (.agg (#[.int .i64 0, .int .i64 0])) := by kernel_rfl
theorem z36 : (Tryd.prog.info? 36).bind (·.zero) = some (.agg (#[.int .i64 0, .int .i64 0, .int .i64 0])) := by kernel_rfl
end FFind
open FFind
set_option maxRecDepth 20000 in
set_option maxHeartbeats 1000000 in
theorem is_ok {w0 : World} {b : Nat} {op : ByteArray} {n : Int} (m : Int) (hb : Hid (w0.heap[b]? = some (errObj op n)))  :
    Fn Tryd.prog 59 [.iface 80 (.pointer (some ⟨b, 0, none⟩)), .iface 44 (.int .i64 m), .bool true] w0 [] (fun v _ => v = .bool (n == m)) := by
  refine x_enter' (n := 54) Tryd.func59 rfl rfl (Nat.le_of_ble_eq_true rfl) fun a w st => ?_
  refine x_seq ?_
  refine x_region ?_
  refine xseg 1 st rfl ?_
  clear st a; intro a st
  refine x_nil ?_
  refine wp_block ?_
  refine wp_loop_rounds 2 ?_
  rw [rounds_succ]
  refine wp_block ?_
  refine x_seq ?_
  refine x_seq ?_
  refine x_region ?_
  refine xseg 2 st rfl ?_
  clear st a; intro a st
  refine x_unguard st (b := true) rfl rfl rfl ?_
  refine xseg 1 st rfl ?_
  clear st a; intro a st
  refine x_unguard st (b := true) rfl rfl rfl ?_
  refine xseg 1 st rfl ?_
  clear st a; intro a st
  refine x_unguard st (b := true) rfl rfl rfl ?_
  refine x_run (v := .bool false) st (r_eqIfc st rfl rfl rfl (bin_fe _ _ _)) rfl rfl (by decide) ?_
  clear st a; intro a st
  refine xseg 1 st rfl ?_
  clear st a; intro a st
  refine x_nil ?_
  refine x_condF st rfl ?_
  refine wp_skip ?_
  refine x_seq ?_
  refine x_seq ?_
  refine x_region ?_
  refine xseg 1 st rfl ?_
  clear st a; intro a st
  refine x_run (v := .tuple #[.nilIface, .bool false]) st (r_tassert st rfl rfl (ta80_27_128 _ _)) rfl rfl (by decide) ?_
  clear st a; intro a st
  refine xseg 5 st rfl ?_
  clear st a; intro a st
  refine x_nil ?_
  refine x_seq ?_
  refine x_region ?_
  refine xseg 2 st rfl ?_
  clear st a; intro a st
  refine x_skip st (b := true) (c := false) rfl rfl rfl (by decide) rfl (by decide) ?_
  clear st a; intro a st
  refine x_skip st (b := true) (c := false) rfl rfl rfl (by decide) rfl (by decide) ?_
  clear st a; intro a st
  refine x_skip st (b := true) (c := false) rfl rfl rfl (by decide) rfl (by decide) ?_
  clear st a; intro a st
  refine xseg 1 st rfl ?_
  clear st a; intro a st
  refine x_nil ?_
  refine x_condF st rfl ?_
  refine wp_skip ?_
  refine x_seq ?_
  refine x_region ?_
  refine xseg 1 st rfl ?_
  clear st a; intro a st
  refine x_nil ?_
  refine wp_block ?_
  refine x_seq ?_
  refine x_region ?_
  refine x_run (v := .tuple #[.iface 80 (.pointer (some ⟨b, 0, none⟩)), .bool true]) st (r_tassert st rfl rfl (ta80_27_124 _ _)) rfl rfl (by decide) ?_
  clear st a; intro a st
  refine xseg 2 st rfl ?_
  clear st a; intro a st
  refine x_nil ?_
  refine x_condT st rfl ?_
  refine x_seq ?_
  refine x_region ?_
  refine xseg 1 st rfl ?_
  clear st a; intro a st
  refine x_nil ?_
  refine x_seq ?_
  refine x_region ?_
  refine xseg 1 st rfl ?_
  clear st a; intro a st
  refine x_callI (args' := [.pointer (some ⟨b, 0, none⟩)]) st rfl rfl rfl (unwrap_in _) rfl rfl (by decide) (Unwrap_ok (st.old hb.out (by simp))) ?_
  intro a1 w1 v1 hk1 hv hn st1; subst hv; clear hn hk1 st a w; revert st1; revert a1; revert w1; intro w a st
  refine xseg 1 st rfl ?_
  clear st a; intro a st
  refine x_nil ?_
  refine x_seq ?_
  refine x_region ?_
  refine xseg 1 st rfl ?_
  clear st a; intro a st
  refine x_run (v := .bool false) st (r_eqNil (neq := false) (b := false) st rfl rfl (.inr ⟨⟨_, _, rfl⟩, rfl⟩) ui27) rfl rfl (by decide) ?_
  clear st a; intro a st
  refine x_nil ?_
  refine x_condF st rfl ?_
  refine wp_skip ?_
  show Code.rounds _ _ _ _ _ _
  rw [rounds_succ]
  refine wp_block ?_
  refine x_seq ?_
  refine x_seq ?_
  refine x_region ?_
  refine xseg 2 st rfl ?_
  clear st a; intro a st
  refine x_unguard st (b := true) rfl rfl rfl ?_
  refine xseg 1 st rfl ?_
  clear st a; intro a st
  refine x_unguard st (b := true) rfl rfl rfl ?_
  refine xseg 1 st rfl ?_
  clear st a; intro a st
  refine x_unguard st (b := true) rfl rfl rfl ?_
  refine x_run (v := .bool (n == m)) st (r_eqIfc st rfl rfl rfl (bin_ee n m _)) rfl rfl (by decide) ?_
  clear st a; intro a st
  refine xseg 1 st rfl ?_
  clear st a; intro a st
  refine x_nil ?_
  refine x_cond st rfl (fun h1 => ?_) (fun h1 => ?_)
  · refine x_seq ?_
    refine x_region ?_
    refine xseg 1 st rfl ?_
    clear st a; intro a st
    refine x_nil ?_
    refine x_wpret ?_
    refine x_thenRet ?_
    refine x_blockRet ?_
    refine x_thenRet ?_
    refine x_blockRet ?_
    exact x_retp st [.bool true] rfl ⟨rfl, trivial⟩ rfl ((congrArg Value.bool h1.symm))
  · refine wp_skip ?_
    refine x_seq ?_
    refine x_seq ?_
    refine x_region ?_
    refine xseg 1 st rfl ?_
    clear st a; intro a st
    refine x_run (v := .tuple #[.nilIface, .bool false]) st (r_tassert st rfl rfl (ta44_27_128 _ _)) rfl rfl (by decide) ?_
    clear st a; intro a st
    refine xseg 5 st rfl ?_
    clear st a; intro a st
    refine x_nil ?_
    refine x_seq ?_
    refine x_region ?_
    refine xseg 2 st rfl ?_
    clear st a; intro a st
    refine x_skip st (b := true) (c := false) rfl rfl rfl (by decide) rfl (by decide) ?_
    clear st a; intro a st
    refine x_skip st (b := true) (c := false) rfl rfl rfl (by decide) rfl (by decide) ?_
    clear st a; intro a st
    refine x_skip st (b := true) (c := false) rfl rfl rfl (by decide) rfl (by decide) ?_
    clear st a; intro a st
    refine xseg 1 st rfl ?_
    clear st a; intro a st
    refine x_nil ?_
    refine x_condF st rfl ?_
    refine wp_skip ?_
    refine x_seq ?_
    refine x_region ?_
    refine xseg 1 st rfl ?_
    clear st a; intro a st
    refine x_nil ?_
    refine wp_block ?_
    refine x_seq ?_
    refine x_region ?_
    refine x_run (v := .tuple #[.nilIface, .bool false]) st (r_tassert st rfl rfl (ta44_27_124 _ _)) rfl rfl (by decide) ?_
    clear st a; intro a st
    refine xseg 2 st rfl ?_
    clear st a; intro a st
    refine x_nil ?_
    refine x_condF st rfl ?_
    refine x_seq ?_
    refine x_region ?_
    refine x_run (v := .tuple #[.nilIface, .bool false]) st (r_tassert st rfl rfl (ta44_27_94 _ _)) rfl rfl (by decide) ?_
    clear st a; intro a st
    refine xseg 2 st rfl ?_
    clear st a; intro a st
    refine x_nil ?_
    refine x_condF st rfl ?_
    refine x_seq ?_
    refine x_region ?_
    refine xseg 1 st rfl ?_
    clear st a; intro a st
    refine x_nil ?_
    refine x_seq ?_
    refine x_region ?_
    refine xseg 1 st rfl ?_
    clear st a; intro a st
    refine x_nil ?_
    refine x_wpret ?_
    refine x_blockRet ?_
    refine x_blockRet ?_
    refine x_thenRet ?_
    refine x_blockRet ?_
    exact x_retp st [.bool false] rfl ⟨rfl, trivial⟩ rfl ((congrArg Value.bool (show false = (n == m) from by simpa using h1)))

set_option maxRecDepth 20000 in
set_option maxHeartbeats 1000000 in
theorem Is_ok {w0 : World} {b : Nat} {op : ByteArray} {n : Int} (m : Int) {c : Bool} (hc : (n == m) = c) (hb : Hid (w0.heap[b]? = some (errObj op n)))  :
    Fn Tryd.prog 47 [.iface 80 (.pointer (some ⟨b, 0, none⟩)), .iface 44 (.int .i64 m)] w0 [] (fun v _ => v = .bool c) := by
  refine x_enter' (n := 22) Tryd.func47 rfl rfl (Nat.le_of_ble_eq_true rfl) fun a w st => ?_
  refine x_seq ?_
  refine x_region ?_
  refine xseg 1 st rfl ?_
  clear st a; intro a st
  refine x_nil ?_
  refine x_seq ?_
  refine x_seq ?_
  refine x_region ?_
  refine xseg 1 st rfl ?_
  clear st a; intro a st
  refine x_run (v := .bool false) st (r_eqNil (neq := false) (b := false) st rfl rfl (.inr ⟨⟨_, _, rfl⟩, rfl⟩) ui27) rfl rfl (by decide) ?_
  clear st a; intro a st
  refine xseg 1 st rfl ?_
  clear st a; intro a st
  refine x_unguard st (b := false) rfl rfl rfl ?_
  refine xseg 1 st rfl ?_
  clear st a; intro a st
  refine x_unguard st (b := false) rfl rfl rfl ?_
  refine x_run (v := .bool false) st (r_eqNil (neq := false) (b := false) st rfl rfl (.inr ⟨⟨_, _, rfl⟩, rfl⟩) ui27) rfl rfl (by decide) ?_
  clear st a; intro a st
  refine xseg 1 st rfl ?_
  clear st a; intro a st
  refine x_nil ?_
  refine x_condF st rfl ?_
  refine wp_skip ?_
  refine x_seq ?_
  refine x_region ?_
  refine xseg 1 st rfl ?_
  clear st a; intro a st
  refine x_run (v := .iface 117 (.agg (#[.pointer (some ⟨3, 44, none⟩)]))) st (r_extern st rfl rfl (to_no _ _)) rfl rfl (by decide) ?_
  clear st a; intro a st
  refine x_run (v := .bool true) st (r_invoke st rfl rfl rfl (cmp_no _)) rfl rfl (by decide) ?_
  clear st a; intro a st
  refine xseg 1 st rfl ?_
  clear st a; intro a st
  refine x_nil ?_
  refine x_seq ?_
  refine x_region ?_
  refine xseg 3 st rfl ?_
  clear st a; intro a st
  refine x_call st rfl rfl ent59 rfl rfl (by decide) ((is_ok m (st.old hb.out (by simp)))) ?_
  intro a1 w1 v1 hk1 hv hn st1; subst hv
  clear hn hk1 st a w; revert st1; revert a1; revert w1; intro w a st
  refine xseg 1 st rfl ?_
  clear st a; intro a st
  refine x_nil ?_
  refine x_wpret ?_
  exact x_retp st [.bool (n == m)] rfl ⟨rfl, trivial⟩ rfl ((congrArg Value.bool hc))

theorem Meet_0 {l : List Sn} {i j : Nat} {base : Int} (h : metE l i j base = 0) (w0 : World) : Fn Tryd.prog 6 [.agg #[.int .i64 (sn l i).x, .int .i64 (sn l i).y], .int .i64 (sn l i).r, .agg #[.int .i64 (sn l j).x, .int .i64 (sn l j).y], .int .i64 (sn l j).r, .int .i64 base] w0 [] (fun v _ =>
    v = .tuple #[.agg #[.int .i64 (met1 l i j).x, .int .i64 (met1 l i j).y], .agg #[.int .i64 (met2 l i j).x, .int .i64 (met2 l i j).y], .nilIface]) :=
  (Meet_or _ _ _ _ _ _ base w0).mono fun v w' _ h2 => by
    rcases h2 with ⟨_, h2⟩ | ⟨h2, _⟩
    · exact h2
    · exact absurd h h2
theorem Meet_e {l : List Sn} {i j : Nat} {base : Int} (h : metE l i j base ≠ 0) (w0 : World) : Fn Tryd.prog 6 [.agg #[.int .i64 (sn l i).x, .int .i64 (sn l i).y], .int .i64 (sn l i).r, .agg #[.int .i64 (sn l j).x, .int .i64 (sn l j).y], .int .i64 (sn l j).r, .int .i64 base] w0 [] (fun v w' =>
    ∃ b, v = .tuple #[.agg #[.int .i64 0, .int .i64 0], .agg #[.int .i64 0, .int .i64 0], .iface 80 (.pointer (some ⟨b, 0, none⟩))] ∧ w'.heap[b]? = some (errObj ⟨#[99, 105, 114, 99, 108, 101]⟩ (metE l i j base)) ∧ w0.heap.size ≤ b) :=
  (Meet_or _ _ _ _ _ _ base w0).mono fun v w' _ h2 => by
    rcases h2 with ⟨h2, _⟩ | ⟨_, h2⟩
    · exact absurd h2 h
    · exact h2

set_option maxRecDepth 20000 in
set_option maxHeartbeats 1000000 in
theorem third_ok {w0 : World} {b off n cap0 : Nat} {l : List Sn} {cur0 : Array Value} (i j : Nat) (base near : Int) (hb : Hid (w0.heap[b]? = some (.cells cur0 36 (0, 0)))) (hc : Hid (Holds cur0 off (flatS l))) (hnl : n = l.length) (hn : n ≤ 1073741824) (hi : i < n) (hj : j < n)  :
    Fn Tryd.prog 35 [.slice (some ⟨b, off, none⟩) n cap0, .int .i64 ((i : Nat) : Int), .int .i64 ((j : Nat) : Int), .int .i64 base, .int .i64 near] w0 [] (fun v _ => ∃ u x y, v = .tuple #[.agg #[.int .i64 x, .int .i64 y], u] ∧ ((thirdF l i j base near = some (x, y) ∧ u = .nilIface) ∨ (thirdF l i j base near = none ∧ ∃ b, u = .iface 80 (.pointer (some ⟨b, 0, none⟩))))) := by
  refine x_enter' (n := 93) Tryd.func35 rfl rfl (Nat.le_of_ble_eq_true rfl) fun a w st => ?_
  refine x_seq ?_
  refine x_region ?_
  refine x_alloc st rfl z25 rfl rfl (by decide) ?_
  clear st a; intro a w b1 st
  refine xseg 1 st rfl ?_
  clear st a; intro a st
  refine x_nil ?_
  refine x_seq ?_
  rcases Decidable.em (metE l i j base = 0) with hmE | hmE
  · replace hmE : Hid (_ = _) := hmE
    refine x_draw st [] [.det (.slice (some ⟨b, off, none⟩) n cap0), .det (.int .i64 ((i : Nat) : Int)), .det (.pointer (some ⟨b, off + i * 3, none⟩)), .det (.pointer (some ⟨b, off + i * 3 + 0, none⟩)), .det (.agg (#[.int .i64 ((sn l i).x), .int .i64 ((sn l i).y)])), .det (.slice (some ⟨b, off, none⟩) n cap0), .det (.int .i64 ((i : Nat) : Int)), .det (.pointer (some ⟨b, off + i * 3, none⟩)), .det (.pointer (some ⟨b, off + i * 3 + 2, none⟩)), .det (.int .i64 ((sn l i).r)), .det (.slice (some ⟨b, off, none⟩) n cap0), .det (.int .i64 ((j : Nat) : Int)), .det (.pointer (some ⟨b, off + j * 3, none⟩)), .det (.pointer (some ⟨b, off + j * 3 + 0, none⟩)), .det (.agg (#[.int .i64 ((sn l j).x), .int .i64 ((sn l j).y)])), .det (.slice (some ⟨b, off, none⟩) n cap0), .det (.int .i64 ((j : Nat) : Int)), .det (.pointer (some ⟨b, off + j * 3, none⟩)), .det (.pointer (some ⟨b, off + j * 3 + 2, none⟩)), .det (.int .i64 ((sn l j).r)), .det (.int .i64 base), .det (.tuple #[.agg (#[.int .i64 ((met1 l i j).x), .int .i64 ((met1 l i j).y)]), .agg (#[.int .i64 ((met2 l i j).x), .int .i64 ((met2 l i j).y)]), .nilIface]), .det (.tuple #[.agg (#[.int .i64 ((met1 l i j).x), .int .i64 ((met1 l i j).y)]), .agg (#[.int .i64 ((met2 l i j).x), .int .i64 ((met2 l i j).y)]), .nilIface]), .det (.agg (#[.int .i64 ((met1 l i j).x), .int .i64 ((met1 l i j).y)])), .det (.agg (#[.int .i64 ((met2 l i j).x), .int .i64 ((met2 l i j).y)])), .det (.nilIface), .spec (.new (.cells (.agg (#[.int .i64 0, .int .i64 0]) : Value).cells 25 (0, 0))), .spec (.new (.cells (.agg (#[.int .i64 0, .int .i64 0]) : Value).cells 25 (0, 0))), .det undef, .det undef, .det undef] mixed (by kernel_rfl)
      ⟨ob_p (Fi := [(0, .slice (some ⟨b, off, none⟩) n cap0)]) (by kernel_rfl) rfl rfl ⟨by kernel_rfl, trivial⟩ rfl rfl,
        ob_p (Fi := [(1, .int .i64 ((i : Nat) : Int))]) (by kernel_rfl) rfl rfl ⟨by kernel_rfl, trivial⟩ rfl rfl,
        ob_run (Fi := [(20, .slice (some ⟨b, off, none⟩) n cap0), (21, .int .i64 ((i : Nat) : Int))]) (by kernel_rfl) rfl rfl ⟨by kernel_rfl, by kernel_rfl, trivial⟩ (fun a w st hk hxx w' => r_index st rfl rfl rfl (run_indexS' (k := i) (off := off + i * 3) u32 s36 (by omega) (by first | rfl | omega) _)),
        ob_run (Fi := [(22, .pointer (some ⟨b, off + i * 3, none⟩))]) (by kernel_rfl) rfl rfl ⟨by kernel_rfl, trivial⟩ (fun a w st hk hxx w' => r_field st rfl rfl o36_0),
        ob_w (Fi := [(23, .pointer (some ⟨b, off + i * 3 + 0, none⟩))]) (by kernel_rfl) rfl rfl ⟨by kernel_rfl, trivial⟩ (fun a w st hk hxx => r_load st rfl rfl (run_loadL [.int .i64 ((sn l i).x), .int .i64 ((sn l i).y)] (st.old hb.out (by simp)) r25.choose_spec.1 r25.choose_spec.2 s25 rfl (hold_p hc.out (by omega)))),
        ob_p (Fi := [(0, .slice (some ⟨b, off, none⟩) n cap0)]) (by kernel_rfl) rfl rfl ⟨by kernel_rfl, trivial⟩ rfl rfl,
        ob_p (Fi := [(1, .int .i64 ((i : Nat) : Int))]) (by kernel_rfl) rfl rfl ⟨by kernel_rfl, trivial⟩ rfl rfl,
        ob_run (Fi := [(25, .slice (some ⟨b, off, none⟩) n cap0), (26, .int .i64 ((i : Nat) : Int))]) (by kernel_rfl) rfl rfl ⟨by kernel_rfl, by kernel_rfl, trivial⟩ (fun a w st hk hxx w' => r_index st rfl rfl rfl (run_indexS' (k := i) (off := off + i * 3) u32 s36 (by omega) (by first | rfl | omega) _)),
        ob_run (Fi := [(27, .pointer (some ⟨b, off + i * 3, none⟩))]) (by kernel_rfl) rfl rfl ⟨by kernel_rfl, trivial⟩ (fun a w st hk hxx w' => r_field st rfl rfl o36_1),
        ob_w (Fi := [(28, .pointer (some ⟨b, off + i * 3 + 2, none⟩))]) (by kernel_rfl) rfl rfl ⟨by kernel_rfl, trivial⟩ (fun a w st hk hxx => r_load st rfl rfl (run_load1 (st.old hb.out (by simp)) u2 rfl (hold_r hc.out (by omega)))),
        ob_p (Fi := [(0, .slice (some ⟨b, off, none⟩) n cap0)]) (by kernel_rfl) rfl rfl ⟨by kernel_rfl, trivial⟩ rfl rfl,
        ob_p (Fi := [(2, .int .i64 ((j : Nat) : Int))]) (by kernel_rfl) rfl rfl ⟨by kernel_rfl, trivial⟩ rfl rfl,
        ob_run (Fi := [(30, .slice (some ⟨b, off, none⟩) n cap0), (31, .int .i64 ((j : Nat) : Int))]) (by kernel_rfl) rfl rfl ⟨by kernel_rfl, by kernel_rfl, trivial⟩ (fun a w st hk hxx w' => r_index st rfl rfl rfl (run_indexS' (k := j) (off := off + j * 3) u32 s36 (by omega) (by first | rfl | omega) _)),
        ob_run (Fi := [(32, .pointer (some ⟨b, off + j * 3, none⟩))]) (by kernel_rfl) rfl rfl ⟨by kernel_rfl, trivial⟩ (fun a w st hk hxx w' => r_field st rfl rfl o36_0),
        ob_w (Fi := [(33, .pointer (some ⟨b, off + j * 3 + 0, none⟩))]) (by kernel_rfl) rfl rfl ⟨by kernel_rfl, trivial⟩ (fun a w st hk hxx => r_load st rfl rfl (run_loadL [.int .i64 ((sn l j).x), .int .i64 ((sn l j).y)] (st.old hb.out (by simp)) r25.choose_spec.1 r25.choose_spec.2 s25 rfl (hold_p hc.out (by omega)))),
        ob_p (Fi := [(0, .slice (some ⟨b, off, none⟩) n cap0)]) (by kernel_rfl) rfl rfl ⟨by kernel_rfl, trivial⟩ rfl rfl,
        ob_p (Fi := [(2, .int .i64 ((j : Nat) : Int))]) (by kernel_rfl) rfl rfl ⟨by kernel_rfl, trivial⟩ rfl rfl,
        ob_run (Fi := [(35, .slice (some ⟨b, off, none⟩) n cap0), (36, .int .i64 ((j : Nat) : Int))]) (by kernel_rfl) rfl rfl ⟨by kernel_rfl, by kernel_rfl, trivial⟩ (fun a w st hk hxx w' => r_index st rfl rfl rfl (run_indexS' (k := j) (off := off + j * 3) u32 s36 (by omega) (by first | rfl | omega) _)),
        ob_run (Fi := [(37, .pointer (some ⟨b, off + j * 3, none⟩))]) (by kernel_rfl) rfl rfl ⟨by kernel_rfl, trivial⟩ (fun a w st hk hxx w' => r_field st rfl rfl o36_1),
        ob_w (Fi := [(38, .pointer (some ⟨b, off + j * 3 + 2, none⟩))]) (by kernel_rfl) rfl rfl ⟨by kernel_rfl, trivial⟩ (fun a w st hk hxx => r_load st rfl rfl (run_load1 (st.old hb.out (by simp)) u2 rfl (hold_r hc.out (by omega)))),
        ob_p (Fi := [(3, .int .i64 base)]) (by kernel_rfl) rfl rfl ⟨by kernel_rfl, trivial⟩ rfl rfl,
        ob_call (Fi := [(24, .agg (#[.int .i64 ((sn l i).x), .int .i64 ((sn l i).y)])), (29, .int .i64 ((sn l i).r)), (34, .agg (#[.int .i64 ((sn l j).x), .int .i64 ((sn l j).y)])), (39, .int .i64 ((sn l j).r)), (40, .int .i64 base)]) (by kernel_rfl) rfl ent6 rfl ⟨by kernel_rfl, by kernel_rfl, by kernel_rfl, by kernel_rfl, by kernel_rfl, trivial⟩ rfl (fun a w st hk hxx => (Meet_0 hmE.out _)) (fun _ _ _ _ hp => ⟨hp, fun b hb => by cases hb⟩),
        ob_p (Fi := [(41, .tuple #[.agg (#[.int .i64 ((met1 l i j).x), .int .i64 ((met1 l i j).y)]), .agg (#[.int .i64 ((met2 l i j).x), .int .i64 ((met2 l i j).y)]), .nilIface])]) (by kernel_rfl) rfl rfl ⟨by kernel_rfl, trivial⟩ rfl rfl,
        ob_p (Fi := [(19, .tuple #[.agg (#[.int .i64 ((met1 l i j).x), .int .i64 ((met1 l i j).y)]), .agg (#[.int .i64 ((met2 l i j).x), .int .i64 ((met2 l i j).y)]), .nilIface])]) (by kernel_rfl) rfl rfl ⟨by kernel_rfl, trivial⟩ rfl rfl,
        ob_p (Fi := [(19, .tuple #[.agg (#[.int .i64 ((met1 l i j).x), .int .i64 ((met1 l i j).y)]), .agg (#[.int .i64 ((met2 l i j).x), .int .i64 ((met2 l i j).y)]), .nilIface])]) (by kernel_rfl) rfl rfl ⟨by kernel_rfl, trivial⟩ rfl rfl,
        ob_p (Fi := [(19, .tuple #[.agg (#[.int .i64 ((met1 l i j).x), .int .i64 ((met1 l i j).y)]), .agg (#[.int .i64 ((met2 l i j).x), .int .i64 ((met2 l i j).y)]), .nilIface])]) (by kernel_rfl) rfl rfl ⟨by kernel_rfl, trivial⟩ rfl rfl,
        ob_alloc (by kernel_rfl) rfl z25 rfl,
        ob_alloc (by kernel_rfl) rfl z25 rfl,
        ob_store (by kernel_rfl),
        ob_store (by kernel_rfl),
        ob_store (by kernel_rfl), trivial⟩ ?_
    intro a1 w1 hk1 st1 he
    clear hk1 st a w; revert st1 he; revert a1; revert w1; intro w a st he
    replace st := st.pickTo (F' := [(0, .slice (some ⟨b, off, none⟩) n cap0), (1, .int .i64 ((i : Nat) : Int)), (2, .int .i64 ((j : Nat) : Int)), (3, .int .i64 base), (4, .int .i64 near), (10, .pointer (some ⟨b1, 0, none⟩)), (11, .nilIface), (42, .agg (#[.int .i64 ((met1 l i j).x), .int .i64 ((met1 l i j).y)])), (43, .agg (#[.int .i64 ((met2 l i j).x), .int .i64 ((met2 l i j).y)])), (44, .nilIface)]) [0, 1, 2, 3, 4, 10, 11, 42, 43, 44] (by kernel_rfl)
    obtain ⟨b2, heb2, hbb2, hnb2⟩ := he.new 26 rfl rfl
    obtain ⟨b3, heb3, hbb3, hnb3⟩ := he.new 27 rfl rfl
    replace st := (st.know heb2).add hbb2 hnb2
    replace st := (st.know heb3).add hbb3 ⟨List.not_mem_cons_of_ne_of_not_mem (he.ptr_ne 26 27 (by decide) rfl rfl rfl rfl rfl rfl heb2 heb3) ( hnb3.1), hnb3.2⟩
    replace st := st.cast rfl (show _ = ([(b3, .cells (#[.int .i64 0, .int .i64 0]) 25 (0, 0)), (b2, .cells (#[.int .i64 0, .int .i64 0]) 25 (0, 0)), (b1, .cells (#[.int .i64 0, .int .i64 0]) 25 (0, 0))] : Hp) from rfl)
    clear heb2 hbb2 hnb2 heb3 hbb3 hnb3 he
    change wpList _ _ _ [_, _, _] _ _
    refine x_store st 1 rfl rfl rfl rfl (run_storeW (st.at 1 rfl) s25 rfl (by first | rfl | simp [Value.oneCell'])) rfl rfl ?_
    clear st a w; intro a w st
    replace st := st.cast rfl (show _ = ([(b3, .cells (#[.int .i64 0, .int .i64 0]) 25 (0, 0)), (b2, .cells (#[.int .i64 ((met1 l i j).x), .int .i64 ((met1 l i j).y)]) 25 (0, 0)), (b1, .cells (#[.int .i64 0, .int .i64 0]) 25 (0, 0))] : Hp) from rfl)
    refine x_store st 0 rfl rfl rfl rfl (run_storeW (st.at 0 rfl) s25 rfl (by first | rfl | simp [Value.oneCell'])) rfl rfl ?_
    clear st a w; intro a w st
    replace st := st.cast rfl (show _ = ([(b3, .cells (#[.int .i64 ((met2 l i j).x), .int .i64 ((met2 l i j).y)]) 25 (0, 0)), (b2, .cells (#[.int .i64 ((met1 l i j).x), .int .i64 ((met1 l i j).y)]) 25 (0, 0)), (b1, .cells (#[.int .i64 0, .int .i64 0]) 25 (0, 0))] : Hp) from rfl)
    refine xseg 1 st rfl ?_
    clear st a; intro a st
    refine x_nil ?_
    show NP _ _ _ _
    refine NP.normal ?_
    refine x_seq ?_
    refine x_seq ?_
    refine x_region ?_
    refine xseg 1 st rfl ?_
    clear st a; intro a st
    refine x_run (v := .bool false) st (r_eqNil (neq := true) (b := true) st rfl rfl (.inl ⟨rfl, rfl⟩) ui27) rfl rfl (by decide) ?_
    clear st a; intro a st
    refine x_nil ?_
    refine x_condF st rfl ?_
    refine wp_skip ?_
    refine x_seq ?_
    refine x_seq ?_
    refine x_region ?_
    refine xseg 1 st rfl ?_
    clear st a; intro a st
    refine x_run (v := .int .i64 ((n : Nat) : Int)) st (r_len st rfl rfl u32) rfl rfl (by decide) ?_
    clear st a; intro a st
    refine xseg 1 st rfl ?_
    clear st a; intro a st
    refine x_nil ?_
    refine wp_block ?_
    refine x_loop (G := Nat) (fun k a w => St w0 [] 93 [(0, .slice (some ⟨b, off, none⟩) n cap0), (1, .int .i64 ((i : Nat) : Int)), (2, .int .i64 ((j : Nat) : Int)), (3, .int .i64 base), (4, .int .i64 near), (10, .pointer (some ⟨b1, 0, none⟩)), (12, .pointer (some ⟨b2, 0, none⟩)), (13, .pointer (some ⟨b3, 0, none⟩)), (49, .slice (some ⟨b, off, none⟩) n cap0), (50, .int .i64 ((n : Nat) : Int)), (51, .int .i64 ((k : Nat) : Int))] ([(b3, .cells (#[.int .i64 ((met2 l i j).x), .int .i64 ((met2 l i j).y)]) 25 (0, 0)), (b2, .cells (#[.int .i64 ((met1 l i j).x), .int .i64 ((met1 l i j).y)]) 25 (0, 0)), (b1, .cells (#[.int .i64 0, .int .i64 0]) 25 (0, 0))] : Hp) a w ∧ (k ≤ n) ∧ (∀ q, q < k → kF l i j near q = none)) (fun k => n - k) 0 ⟨st.pickTo [0, 1, 2, 3, 4, 10, 12, 13, 49, 50, 51] (by kernel_rfl), by omega, fun q hq => by omega⟩ ?_
    clear st a w; intro k a w ⟨st, hkn, hkz⟩
    refine x_seq ?_
    refine x_region ?_
    refine xseg 1 st rfl ?_
    clear st a; intro a st
    refine x_nil ?_
    refine x_seq ?_
    refine x_condD st rfl (fun h5 => ?_) (fun h5 => ?_)
    · refine wp_skip ?_
      refine x_seq ?_
      refine wp_block ?_
      refine x_seq ?_
      refine x_region ?_
      refine xseg 1 st rfl ?_
      clear st a; intro a st
      refine x_run (v := .pointer (some ⟨b, off + k * 3, none⟩)) st (r_index st rfl rfl rfl (run_indexS' (k := k) (off := off + k * 3) u32 s36 (by omega) (by first | rfl | omega) _)) rfl rfl (by decide) ?_
      clear st a; intro a st
      refine x_run (v := .agg (#[.int .i64 ((sn l k).x), .int .i64 ((sn l k).y), .int .i64 ((sn l k).r)])) st (r_load st rfl rfl (run_loadL [.int .i64 ((sn l k).x), .int .i64 ((sn l k).y), .int .i64 ((sn l k).r)] (st.old hb.out (by simp)) r36.choose_spec.1 r36.choose_spec.2 s36 rfl (hold_s hc.out (by omega)))) rfl rfl (by decide) ?_
      clear st a; intro a st
      refine x_alloc st rfl z36 rfl rfl (by decide) ?_
      clear st a; intro a w b4 st
      refine xseg 1 st rfl ?_
      clear st a; intro a st
      refine x_store st 0 rfl rfl rfl rfl (run_storeW (st.at 0 rfl) s36 rfl (by first | rfl | simp [Value.oneCell'])) rfl rfl ?_
      clear st a w; intro a w st
      replace st := st.cast rfl (show _ = ([(b4, .cells (#[.int .i64 ((sn l k).x), .int .i64 ((sn l k).y), .int .i64 ((sn l k).r)]) 36 (0, 0)), (b3, .cells (#[.int .i64 ((met2 l i j).x), .int .i64 ((met2 l i j).y)]) 25 (0, 0)), (b2, .cells (#[.int .i64 ((met1 l i j).x), .int .i64 ((met1 l i j).y)]) 25 (0, 0)), (b1, .cells (#[.int .i64 0, .int .i64 0]) 25 (0, 0))] : Hp) from rfl)
      refine x_nil ?_
      refine x_seq ?_
      refine x_seq ?_
      refine x_region ?_
      refine xseg 4 st rfl ?_
      clear st a; intro a st
      rcases Bool.eq_false_or_eq_true (((k : Nat) : Int) == ((i : Nat) : Int)) with hg7_3 | hg7_3
      · rw [hg7_3] at st
        refine x_skip st (b := false) (c := true) rfl rfl rfl (by decide) rfl (by decide) ?_
        clear st a; intro a st
        refine x_skip st (b := false) (c := true) rfl rfl rfl (by decide) rfl (by decide) ?_
        clear st a; intro a st
        refine x_skip st (b := false) (c := true) rfl rfl rfl (by decide) rfl (by decide) ?_
        clear st a; intro a st
        refine xseg 1 st rfl ?_
        clear st a; intro a st
        refine x_nil ?_
        refine x_condT st rfl ?_
        refine wp_exit ?_
        refine x_thenExit ?_
        refine x_inBlock ?_
        refine x_region ?_
        refine xp st (.int .i64 ((k + 1 : Nat) : Int)) rfl (wi64 (by omega) (by omega)) rfl rfl (by decide) ?_
        clear st a; intro a st
        refine xseg 1 st rfl ?_
        clear st a; intro a st
        refine x_nil ?_
        replace st := st.heap (H' := ([(b3, .cells (#[.int .i64 ((met2 l i j).x), .int .i64 ((met2 l i j).y)]) 25 (0, 0)), (b2, .cells (#[.int .i64 ((met1 l i j).x), .int .i64 ((met1 l i j).y)]) 25 (0, 0)), (b1, .cells (#[.int .i64 0, .int .i64 0]) 25 (0, 0))] : Hp)) (.cons _ (.cons_cons _ (.cons_cons _ (.cons_cons _ .slnil))))
        exact ⟨k + 1, ⟨st.pickTo [0, 1, 2, 3, 4, 10, 12, 13, 49, 50, 51] (by kernel_rfl), by omega, fun q hq => (Nat.lt_succ_iff_lt_or_eq.1 hq).elim (hkz q) fun e => e ▸ kF_eq (.inl (by simp at hg7_3; omega))⟩, by omega⟩
      · rw [hg7_3] at st
        refine x_unguard st (b := false) rfl rfl rfl ?_
        refine xseg 1 st rfl ?_
        clear st a; intro a st
        refine x_unguard st (b := false) rfl rfl rfl ?_
        refine xseg 1 st rfl ?_
        clear st a; intro a st
        refine x_unguard st (b := false) rfl rfl rfl ?_
        refine xseg 2 st rfl ?_
        clear st a; intro a st
        refine x_nil ?_
        refine x_condE st rfl (fun h7 => ?_) (fun h7 => ?_)
        · refine wp_exit ?_
          refine x_thenExit ?_
          refine x_inBlock ?_
          refine x_region ?_
          refine xp st (.int .i64 ((k + 1 : Nat) : Int)) rfl (wi64 (by omega) (by omega)) rfl rfl (by decide) ?_
          clear st a; intro a st
          refine xseg 1 st rfl ?_
          clear st a; intro a st
          refine x_nil ?_
          replace st := st.heap (H' := ([(b3, .cells (#[.int .i64 ((met2 l i j).x), .int .i64 ((met2 l i j).y)]) 25 (0, 0)), (b2, .cells (#[.int .i64 ((met1 l i j).x), .int .i64 ((met1 l i j).y)]) 25 (0, 0)), (b1, .cells (#[.int .i64 0, .int .i64 0]) 25 (0, 0))] : Hp)) (.cons _ (.cons_cons _ (.cons_cons _ (.cons_cons _ .slnil))))
          exact ⟨k + 1, ⟨st.pickTo [0, 1, 2, 3, 4, 10, 12, 13, 49, 50, 51] (by kernel_rfl), by omega, fun q hq => (Nat.lt_succ_iff_lt_or_eq.1 hq).elim (hkz q) fun e => e ▸ kF_eq (.inr (by omega))⟩, by omega⟩
        · refine wp_skip ?_
          refine x_seq ?_
          refine x_region ?_
          refine x_run (v := .agg (#[.int .i64 ((met1 l i j).x), .int .i64 ((met1 l i j).y)])) st (r_load st rfl rfl (run_loadW (st.at 2 rfl) r25.choose_spec.1 r25.choose_spec.2 s25 rfl)) rfl rfl (by decide) ?_
          clear st a; intro a st
          refine x_run (v := .agg (#[.int .i64 ((met2 l i j).x), .int .i64 ((met2 l i j).y)])) st (r_load st rfl rfl (run_loadW (st.at 1 rfl) r25.choose_spec.1 r25.choose_spec.2 s25 rfl)) rfl rfl (by decide) ?_
          clear st a; intro a st
          refine x_run (v := .pointer (some ⟨b4, 0, none⟩)) st (r_field st rfl rfl o36_0) rfl rfl (by decide) ?_
          clear st a; intro a st
          refine x_run (v := .agg (#[.int .i64 ((sn l k).x), .int .i64 ((sn l k).y)])) st (r_load st rfl rfl (run_loadA (st.at 0 rfl) r25.choose_spec.1 r25.choose_spec.2 s25 (Nat.le_of_ble_eq_true rfl))) rfl rfl (by decide) ?_
          clear st a; intro a st
          refine x_run (v := .pointer (some ⟨b4, 2, none⟩)) st (r_field st rfl rfl o36_1) rfl rfl (by decide) ?_
          clear st a; intro a st
          refine x_run (v := .int .i64 ((sn l k).r)) st (r_load st rfl rfl (run_load1 (st.at 0 rfl) u2 rfl rfl)) rfl rfl (by decide) ?_
          clear st a; intro a st
          refine xseg 1 st rfl ?_
          clear st a; intro a st
          refine x_call st rfl rfl ent10 rfl rfl (by decide) (Pick_ok (met1 l i j).x (met1 l i j).y (met2 l i j).x (met2 l i j).y (sn l k).x (sn l k).y (sn l k).r near _) ?_
          intro a1 w1 v1 hk1 hv hn st1; obtain ⟨u, hu, rfl⟩ := hv
          rcases hu with ⟨hez, rfl⟩ | ⟨hez, be, rfl, hbx, hlx⟩
          · replace hez : Hid (kE l i j near k = 0) := hez; clear hn hk1 st a w; revert st1; revert a1; revert w1; intro w a st
            refine xseg 3 st rfl ?_
            clear st a; intro a st
            refine x_alloc st rfl z25 rfl rfl (by decide) ?_
            clear st a; intro a w b5 st
            refine x_store st 0 rfl rfl rfl rfl (run_storeW (st.at 0 rfl) s25 rfl (by first | rfl | simp [Value.oneCell'])) rfl rfl ?_
            clear st a w; intro a w st
            replace st := st.cast rfl (show _ = ([(b5, .cells (#[.int .i64 (if kE l i j near k = 0 then (bif kA l i j near k then (met1 l i j).x else (met2 l i j).x) else 0), .int .i64 (if kE l i j near k = 0 then (bif kA l i j near k then (met1 l i j).y else (met2 l i j).y) else 0)]) 25 (0, 0)), (b4, .cells (#[.int .i64 ((sn l k).x), .int .i64 ((sn l k).y), .int .i64 ((sn l k).r)]) 36 (0, 0)), (b3, .cells (#[.int .i64 ((met2 l i j).x), .int .i64 ((met2 l i j).y)]) 25 (0, 0)), (b2, .cells (#[.int .i64 ((met1 l i j).x), .int .i64 ((met1 l i j).y)]) 25 (0, 0)), (b1, .cells (#[.int .i64 0, .int .i64 0]) 25 (0, 0))] : Hp) from rfl)
            refine xseg 1 st rfl ?_
            clear st a; intro a st
            refine x_nil ?_
            refine x_seq ?_
            refine x_seq ?_
            refine x_region ?_
            refine xseg 1 st rfl ?_
            clear st a; intro a st
            refine x_run (v := .bool true) st (r_eqNil (neq := false) (b := true) st rfl rfl (.inl ⟨rfl, rfl⟩) ui27) rfl rfl (by decide) ?_
            clear st a; intro a st
            refine x_nil ?_
            refine x_condT st rfl ?_
            refine x_seq ?_
            refine x_region ?_
            refine x_run (v := .agg (#[.int .i64 (if kE l i j near k = 0 then (bif kA l i j near k then (met1 l i j).x else (met2 l i j).x) else 0), .int .i64 (if kE l i j near k = 0 then (bif kA l i j near k then (met1 l i j).y else (met2 l i j).y) else 0)])) st (r_load st rfl rfl (run_loadW (st.at 0 rfl) r25.choose_spec.1 r25.choose_spec.2 s25 rfl)) rfl rfl (by decide) ?_
            clear st a; intro a st
            refine x_store st 4 rfl rfl rfl rfl (run_storeW (st.at 4 rfl) s25 rfl (by first | rfl | simp [Value.oneCell'])) rfl rfl ?_
            clear st a w; intro a w st
            replace st := st.cast rfl (show _ = ([(b5, .cells (#[.int .i64 (if kE l i j near k = 0 then (bif kA l i j near k then (met1 l i j).x else (met2 l i j).x) else 0), .int .i64 (if kE l i j near k = 0 then (bif kA l i j near k then (met1 l i j).y else (met2 l i j).y) else 0)]) 25 (0, 0)), (b4, .cells (#[.int .i64 ((sn l k).x), .int .i64 ((sn l k).y), .int .i64 ((sn l k).r)]) 36 (0, 0)), (b3, .cells (#[.int .i64 ((met2 l i j).x), .int .i64 ((met2 l i j).y)]) 25 (0, 0)), (b2, .cells (#[.int .i64 ((met1 l i j).x), .int .i64 ((met1 l i j).y)]) 25 (0, 0)), (b1, .cells (#[.int .i64 (if kE l i j near k = 0 then (bif kA l i j near k then (met1 l i j).x else (met2 l i j).x) else 0), .int .i64 (if kE l i j near k = 0 then (bif kA l i j near k then (met1 l i j).y else (met2 l i j).y) else 0)]) 25 (0, 0))] : Hp) from rfl)
            refine xseg 1 st rfl ?_
            clear st a; intro a st
            refine x_nil ?_
            refine x_wpret ?_
            refine x_thenRet ?_
            refine x_blockRet ?_
            refine x_thenRet ?_
            refine x_thenRet ?_
            refine x_blockRet ?_
            refine x_thenRet ?_
            exact x_retp st [.agg (#[.int .i64 (if kE l i j near k = 0 then (bif kA l i j near k then (met1 l i j).x else (met2 l i j).x) else 0), .int .i64 (if kE l i j near k = 0 then (bif kA l i j near k then (met1 l i j).y else (met2 l i j).y) else 0)]), .nilIface] rfl ⟨⟨_, rfl, run_loadW (st.at 4 rfl) r25.choose_spec.1 r25.choose_spec.2 s25 rfl⟩, rfl, trivial⟩ rfl (⟨_, _, _, rfl, .inl ⟨(if_pos hmE.out).trans (first_at hkz (by omega) (by rw [kF_ok (by simp at hg7_3; omega) hez.out, if_pos hez.out, if_pos hez.out])), rfl⟩⟩)
          · replace st1 := st1.add hbx (hn be hlx); replace hez : Hid (kE l i j near k ≠ 0) := hez; clear hn hk1 hbx hlx st a w; revert st1; revert a1; revert w1; intro w a st
            refine xseg 3 st rfl ?_
            clear st a; intro a st
            refine x_alloc st rfl z25 rfl rfl (by decide) ?_
            clear st a; intro a w b7 st
            refine x_store st 0 rfl rfl rfl rfl (run_storeW (st.at 0 rfl) s25 rfl (by first | rfl | simp [Value.oneCell'])) rfl rfl ?_
            clear st a w; intro a w st
            replace st := st.cast rfl (show _ = ([(b7, .cells (#[.int .i64 (if kE l i j near k = 0 then (bif kA l i j near k then (met1 l i j).x else (met2 l i j).x) else 0), .int .i64 (if kE l i j near k = 0 then (bif kA l i j near k then (met1 l i j).y else (met2 l i j).y) else 0)]) 25 (0, 0)), (be, .cells (#[.string (⟨#[99, 105, 114, 99, 108, 101]⟩), .iface 44 (.int .i64 (kE l i j near k))]) 82 (0, 0)), (b4, .cells (#[.int .i64 ((sn l k).x), .int .i64 ((sn l k).y), .int .i64 ((sn l k).r)]) 36 (0, 0)), (b3, .cells (#[.int .i64 ((met2 l i j).x), .int .i64 ((met2 l i j).y)]) 25 (0, 0)), (b2, .cells (#[.int .i64 ((met1 l i j).x), .int .i64 ((met1 l i j).y)]) 25 (0, 0)), (b1, .cells (#[.int .i64 0, .int .i64 0]) 25 (0, 0))] : Hp) from rfl)
            refine xseg 1 st rfl ?_
            clear st a; intro a st
            refine x_nil ?_
            refine x_seq ?_
            refine x_seq ?_
            refine x_region ?_
            refine xseg 1 st rfl ?_
            clear st a; intro a st
            refine x_run (v := .bool false) st (r_eqNil (neq := false) (b := false) st rfl rfl (.inr ⟨⟨_, _, rfl⟩, rfl⟩) ui27) rfl rfl (by decide) ?_
            clear st a; intro a st
            refine x_nil ?_
            refine x_condF st rfl ?_
            refine wp_skip ?_
            refine x_seq ?_
            rcases (kE_three l i j near k).resolve_left hez.out with h3 | h3
            · skip
              refine x_region ?_
              refine xseg 1 st rfl ?_
              clear st a; intro a st
              refine x_run (v := .iface 44 (.int .i64 34)) st (r_mkI st rfl rfl mi44) rfl rfl (by decide) ?_
              clear st a; intro a st
              refine x_call st rfl rfl ent47 rfl rfl (by decide) ((Is_ok 34 (show (kE l i j near k == 34) = false from by rw [h3]; decide) (st.at 1 rfl))) ?_
              intro a1 w1 v1 hk1 hv hn st1; subst hv
              clear hn hk1 st a w; revert st1; revert a1; revert w1; intro w a st
              refine xseg 2 st rfl ?_
              clear st a; intro a st
              refine x_unguard st (b := true) rfl rfl rfl ?_
              refine xseg 1 st rfl ?_
              clear st a; intro a st
              refine x_unguard st (b := true) rfl rfl rfl ?_
              refine x_run (v := .iface 44 (.int .i64 27)) st (r_mkI st rfl rfl mi44) rfl rfl (by decide) ?_
              clear st a; intro a st
              refine x_unguard st (b := true) rfl rfl rfl ?_
              refine x_call st rfl rfl ent47 rfl rfl (by decide) ((Is_ok 27 (show (kE l i j near k == 27) = true from by rw [h3]; decide) (st.at 1 rfl))) ?_
              intro a1 w1 v1 hk1 hv hn st1; subst hv
              clear hn hk1 st a w; revert st1; revert a1; revert w1; intro w a st
              refine x_unguard st (b := true) rfl rfl rfl ?_
              refine xseg 2 st rfl ?_
              clear st a; intro a st
              refine x_nil ?_
              refine x_condF st rfl ?_
              refine wp_skip ?_
              refine x_region ?_
              refine xp st (.int .i64 ((k + 1 : Nat) : Int)) rfl (wi64 (by omega) (by omega)) rfl rfl (by decide) ?_
              clear st a; intro a st
              refine xseg 1 st rfl ?_
              clear st a; intro a st
              refine x_nil ?_
              replace st := st.heap (H' := ([(b3, .cells (#[.int .i64 ((met2 l i j).x), .int .i64 ((met2 l i j).y)]) 25 (0, 0)), (b2, .cells (#[.int .i64 ((met1 l i j).x), .int .i64 ((met1 l i j).y)]) 25 (0, 0)), (b1, .cells (#[.int .i64 0, .int .i64 0]) 25 (0, 0))] : Hp)) (.cons _ (.cons _ (.cons _ (.cons_cons _ (.cons_cons _ (.cons_cons _ .slnil))))))
              exact ⟨k + 1, ⟨st.pickTo [0, 1, 2, 3, 4, 10, 12, 13, 49, 50, 51] (by kernel_rfl), by omega, fun q hq => (Nat.lt_succ_iff_lt_or_eq.1 hq).elim (hkz q) fun e => e ▸ kF_no hez.out⟩, by omega⟩
            · skip
              refine x_region ?_
              refine xseg 1 st rfl ?_
              clear st a; intro a st
              refine x_run (v := .iface 44 (.int .i64 34)) st (r_mkI st rfl rfl mi44) rfl rfl (by decide) ?_
              clear st a; intro a st
              refine x_call st rfl rfl ent47 rfl rfl (by decide) ((Is_ok 34 (show (kE l i j near k == 34) = true from by rw [h3]; decide) (st.at 1 rfl))) ?_
              intro a1 w1 v1 hk1 hv hn st1; subst hv
              clear hn hk1 st a w; revert st1; revert a1; revert w1; intro w a st
              refine xseg 2 st rfl ?_
              clear st a; intro a st
              refine x_skip st (b := true) (c := false) rfl rfl rfl (by decide) rfl (by decide) ?_
              clear st a; intro a st
              refine x_skip st (b := true) (c := false) rfl rfl rfl (by decide) rfl (by decide) ?_
              clear st a; intro a st
              refine x_skip st (b := true) (c := false) rfl rfl rfl (by decide) rfl (by decide) ?_
              clear st a; intro a st
              refine x_skip st (b := true) (c := false) rfl rfl rfl (by decide) rfl (by decide) ?_
              clear st a; intro a st
              refine xseg 1 st rfl ?_
              clear st a; intro a st
              refine x_nil ?_
              refine x_condF st rfl ?_
              refine wp_skip ?_
              refine x_region ?_
              refine xp st (.int .i64 ((k + 1 : Nat) : Int)) rfl (wi64 (by omega) (by omega)) rfl rfl (by decide) ?_
              clear st a; intro a st
              refine xseg 1 st rfl ?_
              clear st a; intro a st
              refine x_nil ?_
              replace st := st.heap (H' := ([(b3, .cells (#[.int .i64 ((met2 l i j).x), .int .i64 ((met2 l i j).y)]) 25 (0, 0)), (b2, .cells (#[.int .i64 ((met1 l i j).x), .int .i64 ((met1 l i j).y)]) 25 (0, 0)), (b1, .cells (#[.int .i64 0, .int .i64 0]) 25 (0, 0))] : Hp)) (.cons _ (.cons _ (.cons _ (.cons_cons _ (.cons_cons _ (.cons_cons _ .slnil))))))
              exact ⟨k + 1, ⟨st.pickTo [0, 1, 2, 3, 4, 10, 12, 13, 49, 50, 51] (by kernel_rfl), by omega, fun q hq => (Nat.lt_succ_iff_lt_or_eq.1 hq).elim (hkz q) fun e => e ▸ kF_no hez.out⟩, by omega⟩
    · refine wp_exit ?_
      refine x_thenExit ?_
      refine x_thenExit ?_
      refine x_inBlock ?_
      refine x_seq ?_
      refine x_region ?_
      refine x_run (v := .agg (#[.int .i64 0, .int .i64 0])) st (r_build0 bz25 rfl) rfl rfl (by decide) ?_
      clear st a; intro a st
      refine x_call st rfl rfl ent34 rfl rfl (by decide) ((bad_buffer 34 _)) ?_
      intro a1 w1 v1 hk1 hv hn st1; obtain ⟨b8, rfl, hbx, hlx⟩ := hv
      replace st1 := st1.add hbx (hn b8 hlx)
      clear hn hk1 hbx hlx st a w; revert st1; revert a1; revert w1; intro w a st
      refine x_store st 3 rfl rfl rfl rfl (run_storeW (st.at 3 rfl) s25 rfl (by first | rfl | simp [Value.oneCell'])) rfl rfl ?_
      clear st a w; intro a w st
      replace st := st.cast rfl (show _ = ([(b8, .cells (#[.string (⟨#[98, 117, 102, 102, 101, 114]⟩), .iface 44 (.int .i64 34)]) 82 (0, 0)), (b3, .cells (#[.int .i64 ((met2 l i j).x), .int .i64 ((met2 l i j).y)]) 25 (0, 0)), (b2, .cells (#[.int .i64 ((met1 l i j).x), .int .i64 ((met1 l i j).y)]) 25 (0, 0)), (b1, .cells (#[.int .i64 0, .int .i64 0]) 25 (0, 0))] : Hp) from rfl)
      refine xseg 1 st rfl ?_
      clear st a; intro a st
      refine x_nil ?_
      refine x_wpret ?_
      exact x_retp st [.agg (#[.int .i64 0, .int .i64 0]), .iface 80 (.pointer (some ⟨b8, 0, none⟩))] rfl ⟨⟨_, rfl, run_loadW (st.at 3 rfl) r25.choose_spec.1 r25.choose_spec.2 s25 rfl⟩, rfl, trivial⟩ rfl (⟨_, _, _, rfl, .inr ⟨(if_pos hmE.out).trans (first_no (fun q hq => hkz q (by omega))), _, rfl⟩⟩)
  · replace hmE : Hid (_ ≠ _) := hmE
    refine x_drawB (val := fun be => .tuple #[.agg (#[.int .i64 0, .int .i64 0]), .agg (#[.int .i64 0, .int .i64 0]), .iface 80 (.pointer (some ⟨be, 0, none⟩))]) (ob := fun be => .cells (#[.string (⟨#[99, 105, 114, 99, 108, 101]⟩), .iface 44 (.int .i64 (metE l i j base))]) 82 (0, 0)) st [] 21 (fun be => [.det (.slice (some ⟨b, off, none⟩) n cap0), .det (.int .i64 ((i : Nat) : Int)), .det (.pointer (some ⟨b, off + i * 3, none⟩)), .det (.pointer (some ⟨b, off + i * 3 + 0, none⟩)), .det (.agg (#[.int .i64 ((sn l i).x), .int .i64 ((sn l i).y)])), .det (.slice (some ⟨b, off, none⟩) n cap0), .det (.int .i64 ((i : Nat) : Int)), .det (.pointer (some ⟨b, off + i * 3, none⟩)), .det (.pointer (some ⟨b, off + i * 3 + 2, none⟩)), .det (.int .i64 ((sn l i).r)), .det (.slice (some ⟨b, off, none⟩) n cap0), .det (.int .i64 ((j : Nat) : Int)), .det (.pointer (some ⟨b, off + j * 3, none⟩)), .det (.pointer (some ⟨b, off + j * 3 + 0, none⟩)), .det (.agg (#[.int .i64 ((sn l j).x), .int .i64 ((sn l j).y)])), .det (.slice (some ⟨b, off, none⟩) n cap0), .det (.int .i64 ((j : Nat) : Int)), .det (.pointer (some ⟨b, off + j * 3, none⟩)), .det (.pointer (some ⟨b, off + j * 3 + 2, none⟩)), .det (.int .i64 ((sn l j).r)), .det (.int .i64 base), .det (.tuple #[.agg (#[.int .i64 0, .int .i64 0]), .agg (#[.int .i64 0, .int .i64 0]), .iface 80 (.pointer (some ⟨be, 0, none⟩))]), .det (.tuple #[.agg (#[.int .i64 0, .int .i64 0]), .agg (#[.int .i64 0, .int .i64 0]), .iface 80 (.pointer (some ⟨be, 0, none⟩))]), .det (.agg (#[.int .i64 0, .int .i64 0])), .det (.agg (#[.int .i64 0, .int .i64 0])), .det (.iface 80 (.pointer (some ⟨be, 0, none⟩))), .spec (.new (.cells (.agg (#[.int .i64 0, .int .i64 0]) : Value).cells 25 (0, 0))), .spec (.new (.cells (.agg (#[.int .i64 0, .int .i64 0]) : Value).cells 25 (0, 0))), .det undef, .det undef, .det undef]) mixed (by kernel_rfl) rfl (fun _ => rfl)
      ⟨.inr (.inr fun _ => rfl), .inr (.inr fun _ => rfl), .inr (.inr fun _ => rfl), .inr (.inr fun _ => rfl), .inr (.inr fun _ => rfl), .inr (.inr fun _ => rfl), .inr (.inr fun _ => rfl), .inr (.inr fun _ => rfl), .inr (.inr fun _ => rfl), .inr (.inr fun _ => rfl), .inr (.inr fun _ => rfl), .inr (.inr fun _ => rfl), .inr (.inr fun _ => rfl), .inr (.inr fun _ => rfl), .inr (.inr fun _ => rfl), .inr (.inr fun _ => rfl), .inr (.inr fun _ => rfl), .inr (.inr fun _ => rfl), .inr (.inr fun _ => rfl), .inr (.inr fun _ => rfl), .inr (.inr fun _ => rfl), .inr (.inl rfl), .inl (by kernel_rfl), .inr (.inr fun _ => rfl), .inr (.inr fun _ => rfl), .inl (by kernel_rfl), .inr (.inr fun _ => rfl), .inr (.inr fun _ => rfl), .inr (.inr fun _ => rfl), .inr (.inr fun _ => rfl), .inr (.inr fun _ => rfl), trivial⟩ (obc_call (Fi := [(24, .agg (#[.int .i64 ((sn l i).x), .int .i64 ((sn l i).y)])), (29, .int .i64 ((sn l i).r)), (34, .agg (#[.int .i64 ((sn l j).x), .int .i64 ((sn l j).y)])), (39, .int .i64 ((sn l j).r)), (40, .int .i64 base)]) rfl ent6 rfl ⟨by kernel_rfl, by kernel_rfl, by kernel_rfl, by kernel_rfl, by kernel_rfl, trivial⟩ rfl (fun a w st hk hxx => Meet_e hmE.out _) (fun _ _ _ h => h)) (fun be =>
      ⟨.inr (ob_p (Fi := [(0, .slice (some ⟨b, off, none⟩) n cap0)]) (by kernel_rfl) rfl rfl ⟨by kernel_rfl, trivial⟩ rfl rfl),
        .inr (ob_p (Fi := [(1, .int .i64 ((i : Nat) : Int))]) (by kernel_rfl) rfl rfl ⟨by kernel_rfl, trivial⟩ rfl rfl),
        .inr (ob_run (Fi := [(20, .slice (some ⟨b, off, none⟩) n cap0), (21, .int .i64 ((i : Nat) : Int))]) (by kernel_rfl) rfl rfl ⟨by kernel_rfl, by kernel_rfl, trivial⟩ (fun a w st hk hxx w' => r_index st rfl rfl rfl (run_indexS' (k := i) (off := off + i * 3) u32 s36 (by omega) (by first | rfl | omega) _))),
        .inr (ob_run (Fi := [(22, .pointer (some ⟨b, off + i * 3, none⟩))]) (by kernel_rfl) rfl rfl ⟨by kernel_rfl, trivial⟩ (fun a w st hk hxx w' => r_field st rfl rfl o36_0)),
        .inr (ob_w (Fi := [(23, .pointer (some ⟨b, off + i * 3 + 0, none⟩))]) (by kernel_rfl) rfl rfl ⟨by kernel_rfl, trivial⟩ (fun a w st hk hxx => r_load st rfl rfl (run_loadL [.int .i64 ((sn l i).x), .int .i64 ((sn l i).y)] (st.old hb.out (by simp)) r25.choose_spec.1 r25.choose_spec.2 s25 rfl (hold_p hc.out (by omega))))),
        .inr (ob_p (Fi := [(0, .slice (some ⟨b, off, none⟩) n cap0)]) (by kernel_rfl) rfl rfl ⟨by kernel_rfl, trivial⟩ rfl rfl),
        .inr (ob_p (Fi := [(1, .int .i64 ((i : Nat) : Int))]) (by kernel_rfl) rfl rfl ⟨by kernel_rfl, trivial⟩ rfl rfl),
        .inr (ob_run (Fi := [(25, .slice (some ⟨b, off, none⟩) n cap0), (26, .int .i64 ((i : Nat) : Int))]) (by kernel_rfl) rfl rfl ⟨by kernel_rfl, by kernel_rfl, trivial⟩ (fun a w st hk hxx w' => r_index st rfl rfl rfl (run_indexS' (k := i) (off := off + i * 3) u32 s36 (by omega) (by first | rfl | omega) _))),
        .inr (ob_run (Fi := [(27, .pointer (some ⟨b, off + i * 3, none⟩))]) (by kernel_rfl) rfl rfl ⟨by kernel_rfl, trivial⟩ (fun a w st hk hxx w' => r_field st rfl rfl o36_1)),
        .inr (ob_w (Fi := [(28, .pointer (some ⟨b, off + i * 3 + 2, none⟩))]) (by kernel_rfl) rfl rfl ⟨by kernel_rfl, trivial⟩ (fun a w st hk hxx => r_load st rfl rfl (run_load1 (st.old hb.out (by simp)) u2 rfl (hold_r hc.out (by omega))))),
        .inr (ob_p (Fi := [(0, .slice (some ⟨b, off, none⟩) n cap0)]) (by kernel_rfl) rfl rfl ⟨by kernel_rfl, trivial⟩ rfl rfl),
        .inr (ob_p (Fi := [(2, .int .i64 ((j : Nat) : Int))]) (by kernel_rfl) rfl rfl ⟨by kernel_rfl, trivial⟩ rfl rfl),
        .inr (ob_run (Fi := [(30, .slice (some ⟨b, off, none⟩) n cap0), (31, .int .i64 ((j : Nat) : Int))]) (by kernel_rfl) rfl rfl ⟨by kernel_rfl, by kernel_rfl, trivial⟩ (fun a w st hk hxx w' => r_index st rfl rfl rfl (run_indexS' (k := j) (off := off + j * 3) u32 s36 (by omega) (by first | rfl | omega) _))),
        .inr (ob_run (Fi := [(32, .pointer (some ⟨b, off + j * 3, none⟩))]) (by kernel_rfl) rfl rfl ⟨by kernel_rfl, trivial⟩ (fun a w st hk hxx w' => r_field st rfl rfl o36_0)),
        .inr (ob_w (Fi := [(33, .pointer (some ⟨b, off + j * 3 + 0, none⟩))]) (by kernel_rfl) rfl rfl ⟨by kernel_rfl, trivial⟩ (fun a w st hk hxx => r_load st rfl rfl (run_loadL [.int .i64 ((sn l j).x), .int .i64 ((sn l j).y)] (st.old hb.out (by simp)) r25.choose_spec.1 r25.choose_spec.2 s25 rfl (hold_p hc.out (by omega))))),
        .inr (ob_p (Fi := [(0, .slice (some ⟨b, off, none⟩) n cap0)]) (by kernel_rfl) rfl rfl ⟨by kernel_rfl, trivial⟩ rfl rfl),
        .inr (ob_p (Fi := [(2, .int .i64 ((j : Nat) : Int))]) (by kernel_rfl) rfl rfl ⟨by kernel_rfl, trivial⟩ rfl rfl),
        .inr (ob_run (Fi := [(35, .slice (some ⟨b, off, none⟩) n cap0), (36, .int .i64 ((j : Nat) : Int))]) (by kernel_rfl) rfl rfl ⟨by kernel_rfl, by kernel_rfl, trivial⟩ (fun a w st hk hxx w' => r_index st rfl rfl rfl (run_indexS' (k := j) (off := off + j * 3) u32 s36 (by omega) (by first | rfl | omega) _))),
        .inr (ob_run (Fi := [(37, .pointer (some ⟨b, off + j * 3, none⟩))]) (by kernel_rfl) rfl rfl ⟨by kernel_rfl, trivial⟩ (fun a w st hk hxx w' => r_field st rfl rfl o36_1)),
        .inr (ob_w (Fi := [(38, .pointer (some ⟨b, off + j * 3 + 2, none⟩))]) (by kernel_rfl) rfl rfl ⟨by kernel_rfl, trivial⟩ (fun a w st hk hxx => r_load st rfl rfl (run_load1 (st.old hb.out (by simp)) u2 rfl (hold_r hc.out (by omega))))),
        .inr (ob_p (Fi := [(3, .int .i64 base)]) (by kernel_rfl) rfl rfl ⟨by kernel_rfl, trivial⟩ rfl rfl),
        .inl rfl,
        .inr (ob_p (Fi := [(41, .tuple #[.agg (#[.int .i64 0, .int .i64 0]), .agg (#[.int .i64 0, .int .i64 0]), .iface 80 (.pointer (some ⟨be, 0, none⟩))])]) (by kernel_rfl) rfl rfl ⟨by kernel_rfl, trivial⟩ rfl rfl),
        .inr (ob_p (Fi := [(19, .tuple #[.agg (#[.int .i64 0, .int .i64 0]), .agg (#[.int .i64 0, .int .i64 0]), .iface 80 (.pointer (some ⟨be, 0, none⟩))])]) (by kernel_rfl) rfl rfl ⟨by kernel_rfl, trivial⟩ rfl rfl),
        .inr (ob_p (Fi := [(19, .tuple #[.agg (#[.int .i64 0, .int .i64 0]), .agg (#[.int .i64 0, .int .i64 0]), .iface 80 (.pointer (some ⟨be, 0, none⟩))])]) (by kernel_rfl) rfl rfl ⟨by kernel_rfl, trivial⟩ rfl rfl),
        .inr (ob_p (Fi := [(19, .tuple #[.agg (#[.int .i64 0, .int .i64 0]), .agg (#[.int .i64 0, .int .i64 0]), .iface 80 (.pointer (some ⟨be, 0, none⟩))])]) (by kernel_rfl) rfl rfl ⟨by kernel_rfl, trivial⟩ rfl rfl),
        .inr (ob_alloc (by kernel_rfl) rfl z25 rfl),
        .inr (ob_alloc (by kernel_rfl) rfl z25 rfl),
        .inr (ob_store (by kernel_rfl)),
        .inr (ob_store (by kernel_rfl)),
        .inr (ob_store (by kernel_rfl)), trivial⟩) ?_
    intro be a1 w1 hk1 st1 he
    clear hk1 st a w; revert st1 he; revert a1; revert w1; intro w a st he
    replace st := st.pickTo (F' := [(0, .slice (some ⟨b, off, none⟩) n cap0), (1, .int .i64 ((i : Nat) : Int)), (2, .int .i64 ((j : Nat) : Int)), (3, .int .i64 base), (4, .int .i64 near), (10, .pointer (some ⟨b1, 0, none⟩)), (11, .nilIface), (42, .agg (#[.int .i64 0, .int .i64 0])), (43, .agg (#[.int .i64 0, .int .i64 0])), (44, .iface 80 (.pointer (some ⟨be, 0, none⟩)))]) [0, 1, 2, 3, 4, 10, 11, 42, 43, 44] (by kernel_rfl)
    replace st := st.cast rfl (show _ = ([(be, .cells (#[.string (⟨#[99, 105, 114, 99, 108, 101]⟩), .iface 44 (.int .i64 (metE l i j base))]) 82 (0, 0)), (b1, .cells (#[.int .i64 0, .int .i64 0]) 25 (0, 0))] : Hp) from rfl)
    obtain ⟨b9, heb9, hbb9, hnb9⟩ := he.new 26 rfl rfl
    obtain ⟨b10, heb10, hbb10, hnb10⟩ := he.new 27 rfl rfl
    replace st := (st.know heb9).add hbb9 hnb9
    replace st := (st.know heb10).add hbb10 ⟨List.not_mem_cons_of_ne_of_not_mem (he.ptr_ne 26 27 (by decide) rfl rfl rfl rfl rfl rfl heb9 heb10) ( hnb10.1), hnb10.2⟩
    replace st := st.cast rfl (show _ = ([(b10, .cells (#[.int .i64 0, .int .i64 0]) 25 (0, 0)), (b9, .cells (#[.int .i64 0, .int .i64 0]) 25 (0, 0)), (be, .cells (#[.string (⟨#[99, 105, 114, 99, 108, 101]⟩), .iface 44 (.int .i64 (metE l i j base))]) 82 (0, 0)), (b1, .cells (#[.int .i64 0, .int .i64 0]) 25 (0, 0))] : Hp) from rfl)
    clear heb9 hbb9 hnb9 heb10 hbb10 hnb10 he
    change Wt _ _ _ 3 [28, 29, 30] _ _
    refine Wt.one (k := 28) (r := [29, 30]) (by kernel_rfl) rfl rfl ?_
    refine x_store st 1 rfl rfl rfl rfl (run_storeW (st.at 1 rfl) s25 rfl (by first | rfl | simp [Value.oneCell'])) rfl rfl ?_
    clear st a w; intro a w st
    replace st := st.cast rfl (show _ = ([(b10, .cells (#[.int .i64 0, .int .i64 0]) 25 (0, 0)), (b9, .cells (#[.int .i64 0, .int .i64 0]) 25 (0, 0)), (be, .cells (#[.string (⟨#[99, 105, 114, 99, 108, 101]⟩), .iface 44 (.int .i64 (metE l i j base))]) 82 (0, 0)), (b1, .cells (#[.int .i64 0, .int .i64 0]) 25 (0, 0))] : Hp) from rfl)
    refine x_nil ?_
    refine QK.normal ?_
    refine Wt.one (k := 29) (r := [30]) (by kernel_rfl) rfl rfl ?_
    refine x_store st 0 rfl rfl rfl rfl (run_storeW (st.at 0 rfl) s25 rfl (by first | rfl | simp [Value.oneCell'])) rfl rfl ?_
    clear st a w; intro a w st
    replace st := st.cast rfl (show _ = ([(b10, .cells (#[.int .i64 0, .int .i64 0]) 25 (0, 0)), (b9, .cells (#[.int .i64 0, .int .i64 0]) 25 (0, 0)), (be, .cells (#[.string (⟨#[99, 105, 114, 99, 108, 101]⟩), .iface 44 (.int .i64 (metE l i j base))]) 82 (0, 0)), (b1, .cells (#[.int .i64 0, .int .i64 0]) 25 (0, 0))] : Hp) from rfl)
    refine x_nil ?_
    refine QK.normal ?_
    refine Wt.one (k := 30) (r := []) (by kernel_rfl) rfl rfl ?_
    refine xseg 1 st rfl ?_
    clear st a; intro a st
    refine x_nil ?_
    refine QK.normal ?_
    refine Wt.nil ?_
    show NP _ _ _ _
    refine NP.normal ?_
    refine x_seq ?_
    refine x_seq ?_
    refine x_region ?_
    refine xseg 1 st rfl ?_
    clear st a; intro a st
    refine x_run (v := .bool true) st (r_eqNil (neq := true) (b := false) st rfl rfl (.inr ⟨⟨_, _, rfl⟩, rfl⟩) ui27) rfl rfl (by decide) ?_
    clear st a; intro a st
    refine x_nil ?_
    refine x_condT st rfl ?_
    refine x_seq ?_
    refine x_region ?_
    refine x_run (v := .agg (#[.int .i64 0, .int .i64 0])) st (r_build0 bz25 rfl) rfl rfl (by decide) ?_
    clear st a; intro a st
    refine xseg 1 st rfl ?_
    clear st a; intro a st
    refine x_store st 3 rfl rfl rfl rfl (run_storeW (st.at 3 rfl) s25 rfl (by first | rfl | simp [Value.oneCell'])) rfl rfl ?_
    clear st a w; intro a w st
    replace st := st.cast rfl (show _ = ([(b10, .cells (#[.int .i64 0, .int .i64 0]) 25 (0, 0)), (b9, .cells (#[.int .i64 0, .int .i64 0]) 25 (0, 0)), (be, .cells (#[.string (⟨#[99, 105, 114, 99, 108, 101]⟩), .iface 44 (.int .i64 (metE l i j base))]) 82 (0, 0)), (b1, .cells (#[.int .i64 0, .int .i64 0]) 25 (0, 0))] : Hp) from rfl)
    refine xseg 1 st rfl ?_
    clear st a; intro a st
    refine x_nil ?_
    refine x_wpret ?_
    refine x_thenRet ?_
    exact x_retp st [.agg (#[.int .i64 0, .int .i64 0]), .iface 80 (.pointer (some ⟨be, 0, none⟩))] rfl ⟨⟨_, rfl, run_loadW (st.at 3 rfl) r25.choose_spec.1 r25.choose_spec.2 s25 rfl⟩, rfl, trivial⟩ rfl (⟨_, _, _, rfl, .inr ⟨if_neg hmE.out, _, rfl⟩⟩)

set_option maxRecDepth 20000 in
set_option maxHeartbeats 1000000 in
theorem Find_nil  (base near : Int) (w0 : World) :
    Fn Tryd.prog 20 [.slice none 0 0, .int .i64 base, .int .i64 near] w0 [] (fun v w' => ∃ b, v = .tuple #[.agg #[.int .i64 0, .int .i64 0], .iface 80 (.pointer (some ⟨b, 0, none⟩))] ∧ w'.heap[b]? = some (errObj ⟨#[98, 117, 102, 102, 101, 114]⟩ 34) ∧ w0.heap.size ≤ b) := by
  refine x_enter' (n := 45) Tryd.func20 rfl rfl (Nat.le_of_ble_eq_true rfl) fun a w st => ?_
  refine x_seq ?_
  refine x_region ?_
  refine x_alloc st rfl z25 rfl rfl (by decide) ?_
  clear st a; intro a w b1 st
  refine xseg 1 st rfl ?_
  clear st a; intro a st
  refine x_nil ?_
  refine x_seq ?_
  refine x_seq ?_
  refine x_region ?_
  refine xseg 1 st rfl ?_
  clear st a; intro a st
  refine x_run (v := .int .i64 0) st (r_len st rfl rfl u32) rfl rfl (by decide) ?_
  clear st a; intro a st
  refine xp st (.bool false) rfl rfl rfl rfl (by decide) ?_
  clear st a; intro a st
  refine x_nil ?_
  refine x_condF st rfl ?_
  refine wp_skip ?_
  refine x_seq ?_
  refine x_seq ?_
  refine x_region ?_
  refine xseg 1 st rfl ?_
  clear st a; intro a st
  refine x_run (v := .int .i64 0) st (r_len st rfl rfl u32) rfl rfl (by decide) ?_
  clear st a; intro a st
  refine xseg 1 st rfl ?_
  clear st a; intro a st
  refine x_nil ?_
  refine wp_block ?_
  refine wp_loop_rounds 1 ?_
  rw [rounds_succ]
  refine x_seq ?_
  refine x_region ?_
  refine xp st (.bool false) rfl rfl rfl rfl (by decide) ?_
  clear st a; intro a st
  refine x_nil ?_
  refine x_seq ?_
  refine x_condF st rfl ?_
  refine wp_exit ?_
  refine x_thenExit ?_
  refine x_thenExit ?_
  refine x_inBlock ?_
  refine x_seq ?_
  refine x_region ?_
  refine x_run (v := .agg (#[.int .i64 0, .int .i64 0])) st (r_build0 bz25 rfl) rfl rfl (by decide) ?_
  clear st a; intro a st
  refine x_call st rfl rfl ent34 rfl rfl (by decide) ((bad_buffer 34 _)) ?_
  intro a1 w1 v1 hk1 hv hn st1; obtain ⟨b2, rfl, hbx, hlx⟩ := hv
  replace st1 := st1.add hbx (hn b2 hlx)
  clear hn hk1 hbx hlx st a w; revert st1; revert a1; revert w1; intro w a st
  refine x_store st 1 rfl rfl rfl rfl (run_storeW (st.at 1 rfl) s25 rfl (by first | rfl | simp [Value.oneCell'])) rfl rfl ?_
  clear st a w; intro a w st
  replace st := st.cast rfl (show _ = ([(b2, .cells (#[.string (⟨#[98, 117, 102, 102, 101, 114]⟩), .iface 44 (.int .i64 34)]) 82 (0, 0)), (b1, .cells (#[.int .i64 0, .int .i64 0]) 25 (0, 0))] : Hp) from rfl)
  refine xseg 1 st rfl ?_
  clear st a; intro a st
  refine x_nil ?_
  refine x_wpret ?_
  exact x_retp st [.agg (#[.int .i64 0, .int .i64 0]), .iface 80 (.pointer (some ⟨b2, 0, none⟩))] rfl ⟨⟨_, rfl, run_loadW (st.at 1 rfl) r25.choose_spec.1 r25.choose_spec.2 s25 rfl⟩, rfl, trivial⟩ rfl (⟨_, rfl, st.at 0 rfl, (st.own _ (List.mem_of_getElem? (i := 0) rfl)).resolve_left (by simp)⟩)

set_option maxRecDepth 20000 in
set_option maxHeartbeats 1000000 in
theorem Find_ok {w0 : World} {b off n cap0 : Nat} {l : List Sn} {cur0 : Array Value} (base near : Int) (hb : Hid (w0.heap[b]? = some (.cells cur0 36 (0, 0)))) (hc : Hid (Holds cur0 off (flatS l))) (hnl : n = l.length) (hn : n ≤ 1073741824)  :
    Fn Tryd.prog 20 [.slice (some ⟨b, off, none⟩) n cap0, .int .i64 base, .int .i64 near] w0 [] (fun v w' => ∃ u, ErrV w0 w' ⟨#[98, 117, 102, 102, 101, 114]⟩ (findE l base near) u ∧ v = .tuple #[.agg #[.int .i64 (findX l base near).1, .int .i64 (findX l base near).2], u]) := by
  refine x_enter' (n := 45) Tryd.func20 rfl rfl (Nat.le_of_ble_eq_true rfl) fun a w st => ?_
  refine x_seq ?_
  refine x_region ?_
  refine x_alloc st rfl z25 rfl rfl (by decide) ?_
  clear st a; intro a w b1 st
  refine xseg 1 st rfl ?_
  clear st a; intro a st
  refine x_nil ?_
  refine x_seq ?_
  refine x_seq ?_
  refine x_region ?_
  refine xseg 1 st rfl ?_
  clear st a; intro a st
  refine x_run (v := .int .i64 ((n : Nat) : Int)) st (r_len st rfl rfl u32) rfl rfl (by decide) ?_
  clear st a; intro a st
  refine xseg 1 st rfl ?_
  clear st a; intro a st
  refine x_nil ?_
  refine x_condD st rfl (fun h1 => ?_) (fun h1 => ?_)
  · refine x_seq ?_
    have he : findE l base near = 23 := findE_23 (by omega)
    refine x_region ?_
    refine x_run (v := .agg (#[.int .i64 0, .int .i64 0])) st (r_build0 bz25 rfl) rfl rfl (by decide) ?_
    clear st a; intro a st
    refine x_call st rfl rfl ent34 rfl rfl (by decide) ((bad_buffer 23 _)) ?_
    intro a1 w1 v1 hk1 hv hn st1; obtain ⟨b2, rfl, hbx, hlx⟩ := hv
    replace st1 := st1.add hbx (hn b2 hlx)
    clear hn hk1 hbx hlx st a w; revert st1; revert a1; revert w1; intro w a st
    refine x_store st 1 rfl rfl rfl rfl (run_storeW (st.at 1 rfl) s25 rfl (by first | rfl | simp [Value.oneCell'])) rfl rfl ?_
    clear st a w; intro a w st
    replace st := st.cast rfl (show _ = ([(b2, .cells (#[.string (⟨#[98, 117, 102, 102, 101, 114]⟩), .iface 44 (.int .i64 23)]) 82 (0, 0)), (b1, .cells (#[.int .i64 0, .int .i64 0]) 25 (0, 0))] : Hp) from rfl)
    refine xseg 1 st rfl ?_
    clear st a; intro a st
    refine x_nil ?_
    refine x_wpret ?_
    refine x_thenRet ?_
    exact x_retp st [.agg (#[.int .i64 0, .int .i64 0]), .iface 80 (.pointer (some ⟨b2, 0, none⟩))] rfl ⟨⟨_, rfl, run_loadW (st.at 1 rfl) r25.choose_spec.1 r25.choose_spec.2 s25 rfl⟩, rfl, trivial⟩ rfl (⟨_, .inr ⟨by rw [he]; decide, _, rfl, by rw [he]; exact st.at 0 rfl, (st.own _ (List.mem_of_getElem? (i := 0) rfl)).resolve_left (by simp)⟩, by rw [findX_no he (by decide)]; rfl⟩)
  · refine wp_skip ?_
    refine x_seq ?_
    refine x_seq ?_
    refine x_region ?_
    refine xseg 1 st rfl ?_
    clear st a; intro a st
    refine x_run (v := .int .i64 ((n : Nat) : Int)) st (r_len st rfl rfl u32) rfl rfl (by decide) ?_
    clear st a; intro a st
    refine xseg 1 st rfl ?_
    clear st a; intro a st
    refine x_nil ?_
    refine wp_block ?_
    refine x_loop (G := Nat) (fun i a w => St w0 [] 45 [(0, .slice (some ⟨b, off, none⟩) n cap0), (1, .int .i64 base), (2, .int .i64 near), (6, .pointer (some ⟨b1, 0, none⟩)), (18, .int .i64 ((n : Nat) : Int)), (19, .int .i64 ((i : Nat) : Int))] ([(b1, .cells (#[.int .i64 0, .int .i64 0]) 25 (0, 0))] : Hp) a w ∧ (i ≤ n) ∧ (∀ q, q < i → rowF l q base near = none)) (fun i => n - i) 0 ⟨st.pickTo [0, 1, 2, 6, 18, 19] (by kernel_rfl), by omega, fun q hq => by omega⟩ ?_
    clear st a w; intro i a w ⟨st, hin, hiz⟩
    refine x_seq ?_
    refine x_region ?_
    refine xseg 1 st rfl ?_
    clear st a; intro a st
    refine x_nil ?_
    refine x_seq ?_
    refine x_condD st rfl (fun h4 => ?_) (fun h4 => ?_)
    · refine wp_skip ?_
      refine x_seq ?_
      refine wp_block ?_
      refine x_seq ?_
      refine x_region ?_
      refine xseg 2 st rfl ?_
      clear st a; intro a st
      refine x_nil ?_
      refine x_seq ?_
      refine x_region ?_
      refine xseg 1 st rfl ?_
      clear st a; intro a st
      refine xp st (.int .i64 ((i + 1 : Nat) : Int)) rfl (wi64 (by omega) (by omega)) rfl rfl (by decide) ?_
      clear st a; intro a st
      refine xseg 1 st rfl ?_
      clear st a; intro a st
      refine x_nil ?_
      refine wp_block ?_
      refine x_loop (G := Nat) (fun j a w => St w0 [] 45 [(0, .slice (some ⟨b, off, none⟩) n cap0), (1, .int .i64 base), (2, .int .i64 near), (6, .pointer (some ⟨b1, 0, none⟩)), (8, .int .i64 ((i : Nat) : Int)), (9, .int .i64 ((j : Nat) : Int)), (18, .int .i64 ((n : Nat) : Int)), (19, .int .i64 ((i : Nat) : Int))] ([(b1, .cells (#[.int .i64 0, .int .i64 0]) 25 (0, 0))] : Hp) a w ∧ (i < j) ∧ (∀ q, q < j → (if i < q then thirdF l i q base near else none) = none)) (fun j => n - j) (i + 1) ⟨st.pickTo [0, 1, 2, 6, 8, 9, 18, 19] (by kernel_rfl), by omega, fun q hq => if_neg (by omega)⟩ ?_
      clear st a w; intro j a w ⟨st, hij, hjz⟩
      refine x_seq ?_
      refine x_seq ?_
      refine x_region ?_
      refine xseg 2 st rfl ?_
      clear st a; intro a st
      refine x_run (v := .int .i64 ((n : Nat) : Int)) st (r_len st rfl rfl u32) rfl rfl (by decide) ?_
      clear st a; intro a st
      refine xseg 1 st rfl ?_
      clear st a; intro a st
      refine x_nil ?_
      refine x_condD st rfl (fun h7 => ?_) (fun h7 => ?_)
      · refine wp_skip ?_
        refine x_seq ?_
        refine wp_block ?_
        refine x_seq ?_
        refine x_region ?_
        refine xseg 5 st rfl ?_
        clear st a; intro a st
        refine x_call st rfl rfl ent35 rfl rfl (by decide) (third_ok i j base near (st.old hb.out (by simp)) hc hnl hn (by omega) (by omega)) ?_
        intro a1 w1 v1 hk1 hv hn1 st1; obtain ⟨u, x, y, rfl, hu⟩ := hv
        rcases hu with ⟨h3, rfl⟩ | ⟨h3, be, rfl⟩
        · replace h3 : Hid (_ = _) := h3; clear hn1 hk1 st a w; revert st1; revert a1; revert w1; intro w a st
          refine xseg 3 st rfl ?_
          clear st a; intro a st
          refine x_alloc st rfl z25 rfl rfl (by decide) ?_
          clear st a; intro a w b3 st
          refine x_store st 0 rfl rfl rfl rfl (run_storeW (st.at 0 rfl) s25 rfl (by first | rfl | simp [Value.oneCell'])) rfl rfl ?_
          clear st a w; intro a w st
          replace st := st.cast rfl (show _ = ([(b3, .cells (#[.int .i64 x, .int .i64 y]) 25 (0, 0)), (b1, .cells (#[.int .i64 0, .int .i64 0]) 25 (0, 0))] : Hp) from rfl)
          refine xseg 1 st rfl ?_
          clear st a; intro a st
          refine x_nil ?_
          refine x_seq ?_
          refine x_region ?_
          refine xseg 1 st rfl ?_
          clear st a; intro a st
          refine x_run (v := .bool true) st (r_eqNil (neq := false) (b := true) st rfl rfl (.inl ⟨rfl, rfl⟩) ui27) rfl rfl (by decide) ?_
          clear st a; intro a st
          refine x_nil ?_
          refine x_condT st rfl ?_
          refine x_seq ?_
          have hF := findF_some hiz hjz hij (by omega) h3.out
          refine x_region ?_
          refine x_run (v := .agg (#[.int .i64 x, .int .i64 y])) st (r_load st rfl rfl (run_loadW (st.at 0 rfl) r25.choose_spec.1 r25.choose_spec.2 s25 rfl)) rfl rfl (by decide) ?_
          clear st a; intro a st
          refine x_store st 1 rfl rfl rfl rfl (run_storeW (st.at 1 rfl) s25 rfl (by first | rfl | simp [Value.oneCell'])) rfl rfl ?_
          clear st a w; intro a w st
          replace st := st.cast rfl (show _ = ([(b3, .cells (#[.int .i64 x, .int .i64 y]) 25 (0, 0)), (b1, .cells (#[.int .i64 x, .int .i64 y]) 25 (0, 0))] : Hp) from rfl)
          refine xseg 1 st rfl ?_
          clear st a; intro a st
          refine x_nil ?_
          refine x_wpret ?_
          refine x_blockRet ?_
          refine x_thenRet ?_
          refine x_thenRet ?_
          refine x_blockRet ?_
          refine x_blockRet ?_
          refine x_thenRet ?_
          refine x_thenRet ?_
          refine x_blockRet ?_
          refine x_thenRet ?_
          exact x_retp st [.agg (#[.int .i64 x, .int .i64 y]), .nilIface] rfl ⟨⟨_, rfl, run_loadW (st.at 1 rfl) r25.choose_spec.1 r25.choose_spec.2 s25 rfl⟩, rfl, trivial⟩ rfl (⟨_, .inl ⟨findE_0 (by omega) hF, rfl⟩, by rw [findX_0 (by omega) hF]; rfl⟩)
        · replace h3 : Hid (_ = _) := h3; clear hn1 hk1 st a w; revert st1; revert a1; revert w1; intro w a st
          refine xseg 3 st rfl ?_
          clear st a; intro a st
          refine x_alloc st rfl z25 rfl rfl (by decide) ?_
          clear st a; intro a w b4 st
          refine x_store st 0 rfl rfl rfl rfl (run_storeW (st.at 0 rfl) s25 rfl (by first | rfl | simp [Value.oneCell'])) rfl rfl ?_
          clear st a w; intro a w st
          replace st := st.cast rfl (show _ = ([(b4, .cells (#[.int .i64 x, .int .i64 y]) 25 (0, 0)), (b1, .cells (#[.int .i64 0, .int .i64 0]) 25 (0, 0))] : Hp) from rfl)
          refine xseg 1 st rfl ?_
          clear st a; intro a st
          refine x_nil ?_
          refine x_seq ?_
          refine x_region ?_
          refine xseg 1 st rfl ?_
          clear st a; intro a st
          refine x_run (v := .bool false) st (r_eqNil (neq := false) (b := false) st rfl rfl (.inr ⟨⟨_, _, rfl⟩, rfl⟩) ui27) rfl rfl (by decide) ?_
          clear st a; intro a st
          refine x_nil ?_
          refine x_condF st rfl ?_
          refine wp_skip ?_
          refine x_region ?_
          refine xseg 1 st rfl ?_
          clear st a; intro a st
          refine xp st (.int .i64 ((j + 1 : Nat) : Int)) rfl (wi64 (by omega) (by omega)) rfl rfl (by decide) ?_
          clear st a; intro a st
          refine xseg 1 st rfl ?_
          clear st a; intro a st
          refine x_nil ?_
          replace st := st.heap (H' := ([(b1, .cells (#[.int .i64 0, .int .i64 0]) 25 (0, 0))] : Hp)) (.cons _ (.cons_cons _ .slnil))
          exact ⟨j + 1, ⟨st.pickTo [0, 1, 2, 6, 8, 9, 18, 19] (by kernel_rfl), by omega, fun q hq => (Nat.lt_succ_iff_lt_or_eq.1 hq).elim (hjz q) fun e => e ▸ (if_pos hij).trans h3.out⟩, by omega⟩
      · refine wp_exit ?_
        refine x_thenExit ?_
        refine x_thenExit ?_
        refine x_inBlock ?_
        refine x_region ?_
        refine xp st (.int .i64 ((i + 1 : Nat) : Int)) rfl (wi64 (by omega) (by omega)) rfl rfl (by decide) ?_
        clear st a; intro a st
        refine xseg 1 st rfl ?_
        clear st a; intro a st
        refine x_nil ?_
        replace st := st.heap (H' := ([(b1, .cells (#[.int .i64 0, .int .i64 0]) 25 (0, 0))] : Hp)) (.cons_cons _ .slnil)
        exact ⟨i + 1, ⟨st.pickTo [0, 1, 2, 6, 18, 19] (by kernel_rfl), by omega, fun q hq => (Nat.lt_succ_iff_lt_or_eq.1 hq).elim (hiz q) fun e => e ▸ first_no (fun q hq => hjz q (by omega))⟩, by omega⟩
    · refine wp_exit ?_
      refine x_thenExit ?_
      refine x_thenExit ?_
      refine x_inBlock ?_
      refine x_seq ?_
      have he : findE l base near = 34 := findE_34 (by omega) (first_no (fun q hq => hiz q (by omega)))
      refine x_region ?_
      refine x_run (v := .agg (#[.int .i64 0, .int .i64 0])) st (r_build0 bz25 rfl) rfl rfl (by decide) ?_
      clear st a; intro a st
      refine x_call st rfl rfl ent34 rfl rfl (by decide) ((bad_buffer 34 _)) ?_
      intro a1 w1 v1 hk1 hv hn st1; obtain ⟨b5, rfl, hbx, hlx⟩ := hv
      replace st1 := st1.add hbx (hn b5 hlx)
      clear hn hk1 hbx hlx st a w; revert st1; revert a1; revert w1; intro w a st
      refine x_store st 1 rfl rfl rfl rfl (run_storeW (st.at 1 rfl) s25 rfl (by first | rfl | simp [Value.oneCell'])) rfl rfl ?_
      clear st a w; intro a w st
      replace st := st.cast rfl (show _ = ([(b5, .cells (#[.string (⟨#[98, 117, 102, 102, 101, 114]⟩), .iface 44 (.int .i64 34)]) 82 (0, 0)), (b1, .cells (#[.int .i64 0, .int .i64 0]) 25 (0, 0))] : Hp) from rfl)
      refine xseg 1 st rfl ?_
      clear st a; intro a st
      refine x_nil ?_
      refine x_wpret ?_
      exact x_retp st [.agg (#[.int .i64 0, .int .i64 0]), .iface 80 (.pointer (some ⟨b5, 0, none⟩))] rfl ⟨⟨_, rfl, run_loadW (st.at 1 rfl) r25.choose_spec.1 r25.choose_spec.2 s25 rfl⟩, rfl, trivial⟩ rfl (⟨_, .inr ⟨by rw [he]; decide, _, rfl, by rw [he]; exact st.at 0 rfl, (st.own _ (List.mem_of_getElem? (i := 0) rfl)).resolve_left (by simp)⟩, by rw [findX_no he (by decide)]; rfl⟩)

set_option maxRecDepth 20000 in
set_option maxHeartbeats 1000000 in
theorem Seen_nil   (w0 : World) :
    Fn Tryd.prog 9 [.slice none 0 0, .slice none 0 0] w0 [] (fun v _ => v = .bool true) := by
  refine x_enter' (n := 26) Tryd.func9 rfl rfl (Nat.le_of_ble_eq_true rfl) fun a w st => ?_
  refine x_seq ?_
  refine x_region ?_
  refine xseg 1 st rfl ?_
  clear st a; intro a st
  refine x_nil ?_
  refine x_seq ?_
  refine x_seq ?_
  refine x_region ?_
  refine xseg 1 st rfl ?_
  clear st a; intro a st
  refine x_run (v := .int .i64 0) st (r_len st rfl rfl u32) rfl rfl (by decide) ?_
  clear st a; intro a st
  refine xseg 1 st rfl ?_
  clear st a; intro a st
  refine x_run (v := .int .i64 0) st (r_len st rfl rfl u32) rfl rfl (by decide) ?_
  clear st a; intro a st
  refine xp st (.bool false) rfl rfl rfl rfl (by decide) ?_
  clear st a; intro a st
  refine x_nil ?_
  refine x_condF st rfl ?_
  refine wp_skip ?_
  refine x_seq ?_
  refine x_seq ?_
  refine x_region ?_
  refine xseg 1 st rfl ?_
  clear st a; intro a st
  refine x_nil ?_
  refine wp_block ?_
  refine wp_loop_rounds 1 ?_
  rw [rounds_succ]
  refine x_seq ?_
  refine x_seq ?_
  refine x_region ?_
  refine xseg 2 st rfl ?_
  clear st a; intro a st
  refine x_run (v := .int .i64 0) st (r_len st rfl rfl u32) rfl rfl (by decide) ?_
  clear st a; intro a st
  refine xp st (.bool false) rfl rfl rfl rfl (by decide) ?_
  clear st a; intro a st
  refine x_nil ?_
  refine x_condF st rfl ?_
  refine wp_exit ?_
  refine x_thenExit ?_
  refine x_thenExit ?_
  refine x_inBlock ?_
  refine x_seq ?_
  refine x_region ?_
  refine xseg 1 st rfl ?_
  clear st a; intro a st
  refine x_nil ?_
  refine x_wpret ?_
  exact x_retp st [.bool true] rfl ⟨rfl, trivial⟩ rfl (rfl)

set_option maxRecDepth 20000 in
set_option maxHeartbeats 1000000 in
theorem Seen_eq {w0 : World} {b off n cap0 b2 off2 cap2 : Nat} {l : List Sn} {cur0 cur2 : Array Value} (hb : Hid (w0.heap[b]? = some (.cells cur0 36 (0, 0)))) (hc : Hid (Holds cur0 off (flatS l))) (hb2 : Hid (w0.heap[b2]? = some (.cells cur2 36 (0, 0)))) (hc2 : Hid (Holds cur2 off2 (flatS l))) (hnl : n = l.length) (hn : n ≤ 1073741824)  :
    Fn Tryd.prog 9 [.slice (some ⟨b, off, none⟩) n cap0, .slice (some ⟨b2, off2, none⟩) n cap2] w0 [] (fun v _ => v = .bool true) := by
  refine x_enter' (n := 26) Tryd.func9 rfl rfl (Nat.le_of_ble_eq_true rfl) fun a w st => ?_
  refine x_seq ?_
  refine x_region ?_
  refine xseg 1 st rfl ?_
  clear st a; intro a st
  refine x_nil ?_
  refine x_seq ?_
  refine x_seq ?_
  refine x_region ?_
  refine xseg 1 st rfl ?_
  clear st a; intro a st
  refine x_run (v := .int .i64 ((n : Nat) : Int)) st (r_len st rfl rfl u32) rfl rfl (by decide) ?_
  clear st a; intro a st
  refine xseg 1 st rfl ?_
  clear st a; intro a st
  refine x_run (v := .int .i64 ((n : Nat) : Int)) st (r_len st rfl rfl u32) rfl rfl (by decide) ?_
  clear st a; intro a st
  refine xp st (.bool false) rfl (beq (by simp)) rfl rfl (by decide) ?_
  clear st a; intro a st
  refine x_nil ?_
  refine x_condF st rfl ?_
  refine wp_skip ?_
  refine x_seq ?_
  refine x_seq ?_
  refine x_region ?_
  refine xseg 1 st rfl ?_
  clear st a; intro a st
  refine x_nil ?_
  refine wp_block ?_
  refine x_loop (G := Nat) (fun i a w => St w0 [] 26 [(0, .slice (some ⟨b, off, none⟩) n cap0), (1, .slice (some ⟨b2, off2, none⟩) n cap2), (5, .int .i64 ((i : Nat) : Int))] ([] : Hp) a w ∧ (i ≤ n)) (fun i => n - i) 0 ⟨st.pickTo [0, 1, 5] (by kernel_rfl), by omega⟩ ?_
  clear st a w; intro i a w ⟨st, hin⟩
  refine x_seq ?_
  refine x_seq ?_
  refine x_region ?_
  refine xseg 2 st rfl ?_
  clear st a; intro a st
  refine x_run (v := .int .i64 ((n : Nat) : Int)) st (r_len st rfl rfl u32) rfl rfl (by decide) ?_
  clear st a; intro a st
  refine xseg 1 st rfl ?_
  clear st a; intro a st
  refine x_nil ?_
  refine x_condD st rfl (fun h4 => ?_) (fun h4 => ?_)
  · refine wp_skip ?_
    refine x_seq ?_
    refine wp_block ?_
    refine x_seq ?_
    refine x_draw st [] [.det (.slice (some ⟨b, off, none⟩) n cap0), .det (.int .i64 ((i : Nat) : Int)), .det (.pointer (some ⟨b, off + i * 3, none⟩)), .det (.agg (#[.int .i64 ((sn l i).x), .int .i64 ((sn l i).y), .int .i64 ((sn l i).r)])), .det (.slice (some ⟨b2, off2, none⟩) n cap2), .det (.int .i64 ((i : Nat) : Int)), .det (.pointer (some ⟨b2, off2 + i * 3, none⟩)), .det (.agg (#[.int .i64 ((sn l i).x), .int .i64 ((sn l i).y), .int .i64 ((sn l i).r)])), .det (.bool false)] mixed (by kernel_rfl)
      ⟨ob_p (Fi := [(0, .slice (some ⟨b, off, none⟩) n cap0)]) (by kernel_rfl) rfl rfl ⟨by kernel_rfl, trivial⟩ rfl rfl,
        ob_p (Fi := [(5, .int .i64 ((i : Nat) : Int))]) (by kernel_rfl) rfl rfl ⟨by kernel_rfl, trivial⟩ rfl rfl,
        ob_run (Fi := [(17, .slice (some ⟨b, off, none⟩) n cap0), (18, .int .i64 ((i : Nat) : Int))]) (by kernel_rfl) rfl rfl ⟨by kernel_rfl, by kernel_rfl, trivial⟩ (fun a w st hk hxx w' => r_index st rfl rfl rfl (run_indexS' (k := i) (off := off + i * 3) u32 s36 (by omega) (by first | rfl | omega) _)),
        ob_w (Fi := [(19, .pointer (some ⟨b, off + i * 3, none⟩))]) (by kernel_rfl) rfl rfl ⟨by kernel_rfl, trivial⟩ (fun a w st hk hxx => r_load st rfl rfl (run_loadL [.int .i64 ((sn l i).x), .int .i64 ((sn l i).y), .int .i64 ((sn l i).r)] (st.old hb.out (by simp)) r36.choose_spec.1 r36.choose_spec.2 s36 rfl (hold_s hc.out (by omega)))),
        ob_p (Fi := [(1, .slice (some ⟨b2, off2, none⟩) n cap2)]) (by kernel_rfl) rfl rfl ⟨by kernel_rfl, trivial⟩ rfl rfl,
        ob_p (Fi := [(5, .int .i64 ((i : Nat) : Int))]) (by kernel_rfl) rfl rfl ⟨by kernel_rfl, trivial⟩ rfl rfl,
        ob_run (Fi := [(21, .slice (some ⟨b2, off2, none⟩) n cap2), (22, .int .i64 ((i : Nat) : Int))]) (by kernel_rfl) rfl rfl ⟨by kernel_rfl, by kernel_rfl, trivial⟩ (fun a w st hk hxx w' => r_index st rfl rfl rfl (run_indexS' (k := i) (off := off2 + i * 3) u32 s36 (by omega) (by first | rfl | omega) _)),
        ob_w (Fi := [(23, .pointer (some ⟨b2, off2 + i * 3, none⟩))]) (by kernel_rfl) rfl rfl ⟨by kernel_rfl, trivial⟩ (fun a w st hk hxx => r_load st rfl rfl (run_loadL [.int .i64 ((sn l i).x), .int .i64 ((sn l i).y), .int .i64 ((sn l i).r)] (st.old hb2.out (by simp)) r36.choose_spec.1 r36.choose_spec.2 s36 rfl (hold_s hc2.out (by omega)))),
        ob_run (Fi := [(20, .agg (#[.int .i64 ((sn l i).x), .int .i64 ((sn l i).y), .int .i64 ((sn l i).r)])), (24, .agg (#[.int .i64 ((sn l i).x), .int .i64 ((sn l i).y), .int .i64 ((sn l i).r)]))]) (by kernel_rfl) rfl rfl ⟨by kernel_rfl, by kernel_rfl, trivial⟩ (fun a w st hk hxx w' => (by rw [show (.bool false : Value) = .bool (!((((sn l i).x) == ((sn l i).x) && ((sn l i).y) == ((sn l i).y)) && ((sn l i).r) == ((sn l i).r))) from (by simp)]; exact r_neqAgg st rfl rfl rfl guard_sn (bin_snN ((sn l i).x) ((sn l i).y) ((sn l i).r) ((sn l i).x) ((sn l i).y) ((sn l i).r) _))), trivial⟩ ?_
    intro a1 w1 hk1 st1 he
    clear hk1 st a w; revert st1 he; revert a1; revert w1; intro w a st he
    replace st := st.pickTo (F' := [(0, .slice (some ⟨b, off, none⟩) n cap0), (1, .slice (some ⟨b2, off2, none⟩) n cap2), (5, .int .i64 ((i : Nat) : Int)), (11, .int .i64 ((i : Nat) : Int)), (12, .slice (some ⟨b, off, none⟩) n cap0), (13, .int .i64 ((n : Nat) : Int)), (14, .bool (decide (((i : Nat) : Int) < ((n : Nat) : Int)))), (25, .bool false)]) [0, 1, 5, 11, 12, 13, 14, 25] (by kernel_rfl)
    clear he
    change wpList _ _ _ [] _ _
    refine x_nil ?_
    show NP _ _ _ _
    refine NP.normal ?_
    refine x_condF st rfl ?_
    refine wp_skip ?_
    refine x_region ?_
    refine xseg 1 st rfl ?_
    clear st a; intro a st
    refine xp st (.int .i64 ((i + 1 : Nat) : Int)) rfl (wi64 (by omega) (by omega)) rfl rfl (by decide) ?_
    clear st a; intro a st
    refine xseg 1 st rfl ?_
    clear st a; intro a st
    refine x_nil ?_
    exact ⟨i + 1, ⟨st.pickTo [0, 1, 5] (by kernel_rfl), by omega⟩, by omega⟩
  · refine wp_exit ?_
    refine x_thenExit ?_
    refine x_thenExit ?_
    refine x_inBlock ?_
    refine x_seq ?_
    refine x_region ?_
    refine xseg 1 st rfl ?_
    clear st a; intro a st
    refine x_nil ?_
    refine x_wpret ?_
    exact x_retp st [.bool true] rfl ⟨rfl, trivial⟩ rfl (rfl)

theorem k23_e : findE [⟨0, 0, 5000⟩, ⟨6000, 0, 5000⟩, ⟨0, 4000, 3000⟩] 1000 10 = 0 := by kernel_rfl
theorem k23_x : findX [⟨0, 0, 5000⟩, ⟨6000, 0, 5000⟩, ⟨0, 4000, 3000⟩] 1000 10 = (3000, 4000) := by kernel_rfl

set_option maxRecDepth 20000 in
set_option maxHeartbeats 1000000 in
theorem known23 {w0 : World} (hG : Hid (Glob w0))  :
    Fn Tryd.prog 7 [] w0 [] (fun v _ => v = .bool true) := by
  refine x_enter' (n := 37) Tryd.func7 rfl rfl (Nat.le_of_ble_eq_true rfl) fun a w st => ?_
  refine x_seq ?_
  refine x_region ?_
  refine xseg 1 st rfl ?_
  clear st a; intro a st
  refine x_nil ?_
  refine x_seq ?_
  refine x_region ?_
  refine x_run (v := .agg (#[.int .i64 0, .int .i64 0])) st (r_build0 bz25 rfl) rfl rfl (by decide) ?_
  clear st a; intro a st
  refine x_call st rfl rfl ent8 rfl rfl (by decide) ((Add_nil 0 0 5000 _)) ?_
  intro a1 w1 v1 hk1 hv hn1 st1; obtain ⟨g1, capg1, curg1, rfl, hbx, hlx, h1g1, h2g1, h3g1, h4g1⟩ := hv
  replace st1 := st1.add hbx (hn1 g1 hlx); replace h1g1 : 1 ≤ capg1 := h1g1; replace h4g1 : Cut curg1 (flatS [⟨0, 0, 5000⟩]) := h4g1; clear hn1 hk1 hbx hlx st a w; revert st1; revert a1; revert w1; intro w a st
  replace st := st.cast (show _ = (7, .slice (some ⟨g1, 0, none⟩) 1 capg1) :: _ from rfl) rfl
  refine x_run (v := .agg (#[.int .i64 6000, .int .i64 0])) st (r_build st rfl rfl (bld25_0i64 _ _)) rfl rfl (by decide) ?_
  clear st a; intro a st
  refine x_call st rfl rfl ent8 rfl rfl (by decide) ((AddS_ok (l := [⟨0, 0, 5000⟩]) 6000 0 5000 (st.at 0 rfl) (show Holds curg1 0 _ from h4g1.holds) (show 1 ≤ capg1 from h1g1) (by decide))) ?_
  intro a1 w1 v1 hk1 hv hn1 st1; obtain ⟨g2, capg2, curg2, rfl, hbx, hlx, h1g2, h2g2, h3g2, h4g2⟩ := hv
  replace st1 := st1.add hbx (hn1 g2 hlx); replace h1g2 : 2 ≤ capg2 := h1g2; replace h4g2 : Cut curg2 (flatS [⟨0, 0, 5000⟩, ⟨6000, 0, 5000⟩]) := h4g2; clear hn1 hk1 hbx hlx st a w; revert st1; revert a1; revert w1; intro w a st
  replace st := st.cast (show _ = (9, .slice (some ⟨g2, 0, none⟩) 2 capg2) :: _ from rfl) rfl
  refine x_run (v := .agg (#[.int .i64 0, .int .i64 4000])) st (r_build st rfl rfl (bld25_1i64 _ _)) rfl rfl (by decide) ?_
  clear st a; intro a st
  refine x_call st rfl rfl ent8 rfl rfl (by decide) ((AddS_ok (l := [⟨0, 0, 5000⟩, ⟨6000, 0, 5000⟩]) 0 4000 3000 (st.at 0 rfl) (show Holds curg2 0 _ from h4g2.holds) (show 2 ≤ capg2 from h1g2) (by decide))) ?_
  intro a1 w1 v1 hk1 hv hn1 st1; obtain ⟨g3, capg3, curg3, rfl, hbx, hlx, h1g3, h2g3, h3g3, h4g3⟩ := hv
  replace st1 := st1.add hbx (hn1 g3 hlx); replace h1g3 : 3 ≤ capg3 := h1g3; replace h4g3 : Cut curg3 (flatS [⟨0, 0, 5000⟩, ⟨6000, 0, 5000⟩, ⟨0, 4000, 3000⟩]) := h4g3; clear hn1 hk1 hbx hlx st a w; revert st1; revert a1; revert w1; intro w a st
  replace st := st.cast (show _ = (11, .slice (some ⟨g3, 0, none⟩) 3 capg3) :: _ from rfl) rfl
  refine xseg 1 st rfl ?_
  clear st a; intro a st
  refine x_nil ?_
  refine x_seq ?_
  refine x_region ?_
  refine xseg 1 st rfl ?_
  clear st a; intro a st
  refine x_call st rfl rfl ent20 rfl rfl (by decide) (Find_ok (l := [⟨0, 0, 5000⟩, ⟨6000, 0, 5000⟩, ⟨0, 4000, 3000⟩]) 1000 10 (st.at 0 rfl) (show Holds curg3 0 _ from h4g3.holds) rfl (by decide)) ?_
  intro a1 w1 v1 hk1 hv hn1 st1; obtain ⟨u, hu, rfl⟩ := hv; obtain rfl := hu.zero k23_e; rw [k23_x] at st1; clear hu hn1 hk1 st a w; revert st1; revert a1; revert w1; intro w a st
  refine xseg 3 st rfl ?_
  clear st a; intro a st
  refine x_alloc st rfl z25 rfl rfl (by decide) ?_
  clear st a; intro a w b1 st
  refine x_store st 0 rfl rfl rfl rfl (run_storeW (st.at 0 rfl) s25 rfl (by first | rfl | simp [Value.oneCell'])) rfl rfl ?_
  clear st a w; intro a w st
  replace st := st.cast rfl (show _ = ([(b1, .cells (#[.int .i64 3000, .int .i64 4000]) 25 (0, 0)), (g3, .cells curg3 36 (0, 0)), (g2, .cells curg2 36 (0, 0)), (g1, .cells curg1 36 (0, 0))] : Hp) from rfl)
  refine xseg 1 st rfl ?_
  clear st a; intro a st
  refine x_nil ?_
  refine x_seq ?_
  refine x_region ?_
  refine x_call st rfl rfl ent20 rfl rfl (by decide) (Find_nil 1000 10 _) ?_
  intro a1 w1 v1 hk1 hv hn1 st1; obtain ⟨be, rfl, hbx, hlx⟩ := hv; replace st1 := st1.add hbx (hn1 be hlx); clear hn1 hk1 hbx hlx st a w; revert st1; revert a1; revert w1; intro w a st
  refine xseg 3 st rfl ?_
  clear st a; intro a st
  refine x_alloc st rfl z25 rfl rfl (by decide) ?_
  clear st a; intro a w b2 st
  refine x_store st 0 rfl rfl rfl rfl (run_storeW (st.at 0 rfl) s25 rfl (by first | rfl | simp [Value.oneCell'])) rfl rfl ?_
  clear st a w; intro a w st
  replace st := st.cast rfl (show _ = ([(b2, .cells (#[.int .i64 0, .int .i64 0]) 25 (0, 0)), (be, .cells (#[.string (⟨#[98, 117, 102, 102, 101, 114]⟩), .iface 44 (.int .i64 34)]) 82 (0, 0)), (b1, .cells (#[.int .i64 3000, .int .i64 4000]) 25 (0, 0)), (g3, .cells curg3 36 (0, 0)), (g2, .cells curg2 36 (0, 0)), (g1, .cells curg1 36 (0, 0))] : Hp) from rfl)
  refine xseg 1 st rfl ?_
  clear st a; intro a st
  refine x_nil ?_
  refine x_seq ?_
  refine x_region ?_
  refine xseg 1 st rfl ?_
  clear st a; intro a st
  refine x_run (v := .int .i64 3) st (r_len st rfl rfl u32) rfl rfl (by decide) ?_
  clear st a; intro a st
  refine xp st (.bool true) rfl (beq rfl) rfl rfl (by decide) ?_
  clear st a; intro a st
  refine xseg 1 st rfl ?_
  clear st a; intro a st
  refine x_unguard st (b := true) rfl rfl rfl ?_
  refine xseg 1 st rfl ?_
  clear st a; intro a st
  refine x_unguard st (b := true) rfl rfl rfl ?_
  refine x_run (v := .bool true) st (r_eqNil (neq := false) (b := true) st rfl rfl (.inl ⟨rfl, rfl⟩) ui27) rfl rfl (by decide) ?_
  clear st a; intro a st
  refine xseg 2 st rfl ?_
  clear st a; intro a st
  refine x_unguard st (b := true) rfl rfl rfl ?_
  refine x_run (v := .agg (#[.int .i64 3000, .int .i64 4000])) st (r_load st rfl rfl (run_loadW (st.at 2 rfl) r25.choose_spec.1 r25.choose_spec.2 s25 rfl)) rfl rfl (by decide) ?_
  clear st a; intro a st
  refine x_unguard st (b := true) rfl rfl rfl ?_
  refine x_run (v := .agg (#[.int .i64 3000, .int .i64 4000])) st (r_build st rfl rfl (bld25_0i64_1i64 _ _ _)) rfl rfl (by decide) ?_
  clear st a; intro a st
  refine x_unguard st (b := true) rfl rfl rfl ?_
  refine x_run (v := .bool true) st ((by rw [show (.bool true : Value) = .bool (3000 == 3000 && 4000 == 4000) from rfl]; exact r_eqAgg st rfl rfl rfl guard_pt (bin_pt 3000 4000 3000 4000 _))) rfl rfl (by decide) ?_
  clear st a; intro a st
  refine xseg 2 st rfl ?_
  clear st a; intro a st
  refine x_unguard st (b := true) rfl rfl rfl ?_
  refine xseg 1 st rfl ?_
  clear st a; intro a st
  refine x_unguard st (b := true) rfl rfl rfl ?_
  refine x_call st rfl rfl ent21 rfl rfl (by decide) ((says23_t (hG.out.keep st.keeps (by simp)) (st.at 1 rfl) (by decide))) ?_
  intro a1 w1 v1 hk1 hv hn st1; subst hv
  clear hn hk1 st a w; revert st1; revert a1; revert w1; intro w a st
  refine xseg 2 st rfl ?_
  clear st a; intro a st
  refine x_nil ?_
  refine x_wpret ?_
  exact x_retp st [.bool true] rfl ⟨rfl, trivial⟩ rfl (rfl)

end Go.Proofs.YtnkbhmonceiocaaDoor
