/-
  Errors: Unwrap, errors.As at an error of the package fault, Code, Ops.
-/
import Derived.Test.YtnkbhmonceiocaaDoorErr
import Derived.Test.YtnkbhmonceiocaaDoorAsSet
import Derived.Test.YtnkbhmonceiocaaDoorApp
namespace Go.Proofs.YtnkbhmonceiocaaDoor
open Go Go.RowKit
namespace FErrs
theorem bsl59_1_1 (x0 : ByteArray) (w : World) : (Instr.buildSlice 59 1 #[(0, .string x0)]).run Tryd.prog w = .ok (.slice (some ⟨w.heap.size, 0, none⟩) 1 1) (w.alloc (.cells #[.string x0] 9 (0, 0))) := by kernel_rfl
theorem bt9 : (Tryd.prog.info? 9).map (·.bytes) = some 16 := by kernel_rfl
theorem ent24 (args : Array Value) (w : World) : (callFunc 24 args).run Tryd.prog w = .ok (.enter 24 args) w := enters_at Tryd.func24 (by kernel_rfl) rfl args w
theorem ent25 (args : Array Value) (w : World) : (callFunc 25 args).run Tryd.prog w = .ok (.enter 25 args) w := enters_at Tryd.func25 (by kernel_rfl) rfl args w
theorem ent38 (args : Array Value) (w : World) : (callFunc 38 args).run Tryd.prog w = .ok (.enter 38 args) w := enters_at Tryd.func38 (by kernel_rfl) rfl args w
theorem ent39 (args : Array Value) (w : World) : (callFunc 39 args).run Tryd.prog w = .ok (.enter 39 args) w := enters_at Tryd.func39 (by kernel_rfl) rfl args w
theorem ent55 (args : Array Value) (w : World) : (callFunc 55 args).run Tryd.prog w = .ok (.enter 55 args) w := enters_at Tryd.func55 (by kernel_rfl) rfl args w
theorem mi79 (v : Value) (w : World) : (Instr.makeInterface 79 v).run Tryd.prog w = .ok (.iface 79 v) w := by kernel_rfl
theorem mixed : Tryd.prog.follows .mixedOrders = true := by kernel_rfl
theorem o82_0 : fieldOff Tryd.prog 82 0 = some 0 := by kernel_rfl
theorem o82_1 : fieldOff Tryd.prog 82 1 = some 1 := by kernel_rfl
theorem r103 : ∃ d, Tryd.prog.underlying 103 = some d ∧ d.isRow = true := ⟨_, Tryd.underlying103, by kernel_rfl⟩
theorem r27 : ∃ d, Tryd.prog.underlying 27 = some d ∧ d.isRow = false := ⟨_, Tryd.underlying27, by kernel_rfl⟩
theorem s103 : (Tryd.prog.info? 103).map (·.size) = some 3 := by kernel_rfl
theorem s9 : (Tryd.prog.info? 9).map (·.size) = some 1 := by kernel_rfl
theorem ta44_27_80 (v : Value) (w : World) : (Instr.typeAssert (.iface 44 v) 27 80 true).run Tryd.prog w = .ok (.tuple #[.pointer none, .bool false]) w := by kernel_rfl
theorem ta44_27_94 (v : Value) (w : World) : (Instr.typeAssert (.iface 44 v) 27 94 true).run Tryd.prog w = .ok (.tuple #[.nilIface, .bool false]) w := run_typeAssert_lacksB Tryd.underlying94 (by kernel_rfl) (by kernel_rfl) v 27 w
theorem ta80_27_121 (v : Value) (w : World) : (Instr.typeAssert (.iface 80 v) 27 121 true).run Tryd.prog w = .ok (.tuple #[.nilIface, .bool false]) w := run_typeAssert_lacksB Tryd.underlying121 (by kernel_rfl) (by kernel_rfl) v 27 w
theorem ta80_27_124 (v : Value) (w : World) : (Instr.typeAssert (.iface 80 v) 27 124 true).run Tryd.prog w = .ok (.tuple #[.iface 80 v, .bool true]) w := run_typeAssert_hasB Tryd.underlying124 (by kernel_rfl) v 27 w
theorem ta80_27_80 (v : Value) (w : World) : (Instr.typeAssert (.iface 80 v) 27 80 true).run Tryd.prog w = .ok (.tuple #[v, .bool true]) w := by kernel_rfl
theorem ta80_27_94 (v : Value) (w : World) : (Instr.typeAssert (.iface 80 v) 27 94 true).run Tryd.prog w = .ok (.tuple #[.nilIface, .bool false]) w := run_typeAssert_lacksB Tryd.underlying94 (by kernel_rfl) (by kernel_rfl) v 27 w
theorem u44 : Tryd.prog.underlying 44 = some (.int .i64) := by kernel_rfl
theorem u59 : Tryd.prog.underlying 59 = some (.slice 9) := by kernel_rfl
theorem u80 : Tryd.prog.underlying 80 = some (.pointer 82) := by kernel_rfl
theorem u9 : Tryd.prog.underlying 9 = some (.string) := by kernel_rfl
theorem ui20 : ∃ ms, Tryd.prog.underlying 20 = some (.interface ms) := ⟨_, Tryd.underlying20⟩
theorem ui27 : ∃ ms, Tryd.prog.underlying 27 = some (.interface ms) := ⟨_, Tryd.underlying27⟩
theorem z103 : (Tryd.prog.info? 103).bind (·.zero) = some (.agg (#[.pointer none, .pointer none, .int .u64 0])) := by kernel_rfl
theorem z44 : (Tryd.prog.info? 44).bind (·.zero) = some (.int .i64 0) := by kernel_rfl
theorem z9 : (Tryd.prog.info? 9).bind (·.zero) = some (.string (⟨#[]⟩)) := by kernel_rfl
end FErrs
open FErrs
/-- The variable errors.errorType holds what the program's text lays. -/
def Glob (w : World) : Prop := w.cell? ⟨0, 0, none⟩ = some (rty 27)
theorem Glob.keep {w w' : World} {D : List Nat} (h : Glob w) (hk : Keeps D w w') (hD : 0 ∉ D) : Glob w' := by
  unfold Glob World.cell? at *
  simp only [] at *
  cases h0 : w.heap[0]? with
  | none => rw [h0] at h; cases h
  | some ob => rw [hk.get h0 hD]; rw [h0] at h; exact h
theorem Glob.pos {w : World} (h : Glob w) : 0 < w.heap.size := by
  unfold Glob World.cell? at h
  rcases Nat.eq_zero_or_pos w.heap.size with h0 | h0
  · have : w.heap[0]? = none := Array.getElem?_eq_none (by omega)
    rw [this] at h; cases h
  · exact h0
theorem Glob.ne {w : World} {b : Nat} {C : Array Value} {t : TypeId} (h : Glob w) (hb : w.heap[b]? = some (.cells C t (0, 0))) (hC : C[0]? ≠ some (rty 27)) : b ≠ 0 := fun e => by
  subst e
  unfold Glob World.cell? at h
  rw [hb] at h
  exact hC h
theorem load_glob {W : World} (h : Glob W) : (loadVar 106 ⟨0, 0, none⟩).run Tryd.prog W = .ok (rty 27) W := by
  unfold Glob at h
  simp [loadVar, isAgg, underlying, Tryd.underlying106, h, Result.andThen]

set_option maxRecDepth 20000 in
set_option maxHeartbeats 1000000 in
theorem Unwrap_ok {w0 : World} {b : Nat} {op : ByteArray} {n : Int} (hb : Hid (w0.heap[b]? = some (errObj op n)))  :
    Fn Tryd.prog 90 [.pointer (some ⟨b, 0, none⟩)] w0 [] (fun v _ => v = .iface 44 (.int .i64 n)) := by
  refine x_enter' (n := 9) Tryd.func90 rfl rfl (Nat.le_of_ble_eq_true rfl) fun a w st => ?_
  refine x_seq ?_
  refine x_region ?_
  refine xseg 1 st rfl ?_
  clear st a; intro a st
  refine x_nil ?_
  refine x_seq ?_
  refine x_seq ?_
  refine x_region ?_
  refine xseg 1 st rfl ?_
  clear st a; intro a st
  refine x_run (v := .bool false) st (r_eqPtrNil (neq := false) (b := false) st rfl rfl (.inr ⟨⟨_, rfl⟩, rfl⟩) u80) rfl rfl (by decide) ?_
  clear st a; intro a st
  refine x_nil ?_
  refine x_condF st rfl ?_
  refine wp_skip ?_
  refine x_seq ?_
  refine x_region ?_
  refine xseg 1 st rfl ?_
  clear st a; intro a st
  refine x_run (v := .pointer (some ⟨b, 0, none⟩)) st (r_nilCheck st rfl rfl) rfl rfl (by decide) ?_
  clear st a; intro a st
  refine x_run (v := .pointer (some ⟨b, 1, none⟩)) st (r_field st rfl rfl o82_1) rfl rfl (by decide) ?_
  clear st a; intro a st
  refine x_run (v := .iface 44 (.int .i64 n)) st (r_load st rfl rfl (run_load1 (st.old hb.out (by simp)) r27.choose_spec.1 r27.choose_spec.2 rfl)) rfl rfl (by decide) ?_
  clear st a; intro a st
  refine xseg 1 st rfl ?_
  clear st a; intro a st
  refine x_nil ?_
  refine x_wpret ?_
  exact x_retp st [.iface 44 (.int .i64 n)] rfl ⟨rfl, trivial⟩ rfl (rfl)

set_option maxRecDepth 20000 in
set_option maxHeartbeats 1000000 in
theorem as_ok {w0 : World} {b t vb : Nat} {op : ByteArray} {n : Int} {old : Value} (hb : Hid (w0.heap[b]? = some (errObj op n))) (ht : Hid (w0.heap[t]? = some (.cells #[old] 44 (0, 0)))) (hvb : Hid (w0.heap[vb]? = some (.cells #[.pointer (some ⟨t, 0, none⟩)] 79 (0, 0)))) (hbt : b ≠ t) (hvt : vb ≠ t)  :
    Fn Tryd.prog 55 [.iface 80 (.pointer (some ⟨b, 0, none⟩)), .iface 79 (.pointer (some ⟨t, 0, none⟩)), .agg (#[.pointer (some ⟨3, 79, none⟩), .pointer (some ⟨vb, 0, none⟩), .int .u64 150]), .iface 117 (.agg (#[.pointer (some ⟨3, 44, none⟩)]))] w0 [t] (fun v w' => v = .bool true ∧ w'.heap[t]? = some (.cells #[.int .i64 n] 44 (0, 0))) := by
  refine x_enterD (n := 62) (H := ([(t, .cells (#[old]) 44 (0, 0))] : Hp)) Tryd.func55 rfl rfl (Nat.le_of_ble_eq_true rfl) (fun h hh => by rw [List.mem_singleton.1 hh]; exact ⟨ht.out, by simp⟩) (by simp) fun a w st => ?_
  refine x_seq ?_
  refine x_region ?_
  refine x_box st rfl rfl rfl rfl (by decide) ?_
  clear st a; intro a w b1 st
  refine xseg 1 st rfl ?_
  clear st a; intro a st
  refine x_nil ?_
  refine wp_block ?_
  refine wp_loop_rounds 2 ?_
  rw [rounds_succ]
  refine wp_block ?_
  refine x_seq ?_
  refine x_seq ?_
  refine x_region ?_
  refine xseg 1 st rfl ?_
  clear st a; intro a st
  refine x_run (v := .iface 117 (.agg (#[.pointer (some ⟨3, 80, none⟩)]))) st (r_extern st rfl rfl (to_fault _ _)) rfl rfl (by decide) ?_
  clear st a; intro a st
  refine xseg 1 st rfl ?_
  clear st a; intro a st
  refine x_run (v := .bool false) st (r_invoke st rfl rfl rfl (asg_fault _)) rfl rfl (by decide) ?_
  clear st a; intro a st
  refine x_nil ?_
  refine x_condF st rfl ?_
  refine wp_skip ?_
  refine x_seq ?_
  refine x_seq ?_
  refine x_region ?_
  refine xseg 1 st rfl ?_
  clear st a; intro a st
  refine x_run (v := .tuple #[.nilIface, .bool false]) st (r_tassert st rfl rfl (ta80_27_121 _ _)) rfl rfl (by decide) ?_
  clear st a; intro a st
  refine xseg 5 st rfl ?_
  clear st a; intro a st
  refine x_nil ?_
  refine x_seq ?_
  refine x_region ?_
  refine xseg 2 st rfl ?_
  clear st a; intro a st
  refine x_skip st (b := true) (c := false) rfl rfl rfl (by decide) rfl (by decide) ?_
  clear st a; intro a st
  refine x_skip st (b := true) (c := false) rfl rfl rfl (by decide) rfl (by decide) ?_
  clear st a; intro a st
  refine x_skip st (b := true) (c := false) rfl rfl rfl (by decide) rfl (by decide) ?_
  clear st a; intro a st
  refine xseg 1 st rfl ?_
  clear st a; intro a st
  refine x_nil ?_
  refine x_condF st rfl ?_
  refine wp_skip ?_
  refine x_seq ?_
  refine x_region ?_
  refine xseg 1 st rfl ?_
  clear st a; intro a st
  refine x_nil ?_
  refine wp_block ?_
  refine x_seq ?_
  refine x_region ?_
  refine x_run (v := .tuple #[.iface 80 (.pointer (some ⟨b, 0, none⟩)), .bool true]) st (r_tassert st rfl rfl (ta80_27_124 _ _)) rfl rfl (by decide) ?_
  clear st a; intro a st
  refine xseg 2 st rfl ?_
  clear st a; intro a st
  refine x_nil ?_
  refine x_condT st rfl ?_
  refine x_seq ?_
  refine x_region ?_
  refine xseg 1 st rfl ?_
  clear st a; intro a st
  refine x_nil ?_
  refine x_seq ?_
  refine x_region ?_
  refine xseg 1 st rfl ?_
  clear st a; intro a st
  refine x_callI (args' := [.pointer (some ⟨b, 0, none⟩)]) st rfl rfl rfl (unwrap_in _) rfl rfl (by decide) (Unwrap_ok (st.old hb.out (by simpa using hbt))) ?_
  intro a1 w1 v1 hk1 hv hn st1; subst hv; clear hn hk1 st a w; revert st1; revert a1; revert w1; intro w a st
  refine xseg 1 st rfl ?_
  clear st a; intro a st
  refine x_nil ?_
  refine x_seq ?_
  refine x_region ?_
  refine xseg 1 st rfl ?_
  clear st a; intro a st
  refine x_run (v := .bool false) st (r_eqNil (neq := false) (b := false) st rfl rfl (.inr ⟨⟨_, _, rfl⟩, rfl⟩) ui27) rfl rfl (by decide) ?_
  clear st a; intro a st
  refine x_nil ?_
  refine x_condF st rfl ?_
  refine wp_skip ?_
  show Code.rounds _ _ _ _ _ _
  rw [rounds_succ]
  refine wp_block ?_
  refine x_seq ?_
  refine x_seq ?_
  refine x_region ?_
  refine xseg 1 st rfl ?_
  clear st a; intro a st
  refine x_run (v := .iface 117 (.agg (#[.pointer (some ⟨3, 44, none⟩)]))) st (r_extern st rfl rfl (to_no _ _)) rfl rfl (by decide) ?_
  clear st a; intro a st
  refine xseg 1 st rfl ?_
  clear st a; intro a st
  refine x_run (v := .bool true) st (r_invoke st rfl rfl rfl (asg_no _)) rfl rfl (by decide) ?_
  clear st a; intro a st
  refine x_nil ?_
  refine x_condT st rfl ?_
  refine x_seq ?_
  refine x_region ?_
  refine x_run (v := .agg (#[.pointer (some ⟨3, 79, none⟩), .pointer (some ⟨vb, 0, none⟩), .int .u64 150])) st (r_load st rfl rfl (run_loadW (st.at 0 rfl) r103.choose_spec.1 r103.choose_spec.2 s103 rfl)) rfl rfl (by decide) ?_
  clear st a; intro a st
  refine x_run (v := .agg (#[.pointer (some ⟨3, 44, none⟩), .pointer (some ⟨t, 0, none⟩), .int .u64 386])) st (r_extern st rfl rfl (elemv_ptr _ _ _ (st.old hvb.out (by simpa using hvt)))) rfl rfl (by decide) ?_
  clear st a; intro a st
  refine xseg 1 st rfl ?_
  clear st a; intro a st
  refine x_extA (V := fun b => .agg #[.pointer (some ⟨3, 44, none⟩), .pointer (some ⟨b, 0, none⟩), .int .u64 130]) st rfl rfl (vo_no _) rfl rfl (by decide) ?_
  clear st a; intro a w b2 st
  refine x_extS st 2 rfl rfl rfl (set_no _ _ _ _ _ (st.at 0 rfl) (st.at 2 rfl)) rfl rfl (by decide) ?_
  clear st a w; intro a w st
  replace st := st.cast rfl (show _ = ([(b2, .cells (#[.int .i64 n]) 44 (0, 0)), (b1, .cells (#[.pointer (some ⟨3, 79, none⟩), .pointer (some ⟨vb, 0, none⟩), .int .u64 150]) 103 (0, 0)), (t, .cells (#[.int .i64 n]) 44 (0, 0))] : Hp) from rfl)
  refine x_nil ?_
  refine x_seq ?_
  refine x_region ?_
  refine xseg 1 st rfl ?_
  clear st a; intro a st
  refine x_nil ?_
  refine x_wpret ?_
  refine x_thenRet ?_
  refine x_blockRet ?_
  refine x_thenRet ?_
  refine x_blockRet ?_
  exact x_retp st [.bool true] rfl ⟨rfl, trivial⟩ rfl (⟨rfl, st.at 2 rfl⟩)

set_option maxRecDepth 20000 in
set_option maxHeartbeats 1000000 in
theorem As_ok {w0 : World} {b t : Nat} {op : ByteArray} {n : Int} {old : Value} (hG : Hid (Glob w0)) (hb : Hid (w0.heap[b]? = some (errObj op n))) (ht : Hid (w0.heap[t]? = some (.cells #[old] 44 (0, 0)))) (hbt : b ≠ t) (ht0 : t ≠ 0)  :
    Fn Tryd.prog 39 [.iface 80 (.pointer (some ⟨b, 0, none⟩)), .iface 79 (.pointer (some ⟨t, 0, none⟩))] w0 [t] (fun v w' => v = .bool true ∧ w'.heap[t]? = some (.cells #[.int .i64 n] 44 (0, 0))) := by
  refine x_enterD (n := 42) (H := ([(t, .cells (#[old]) 44 (0, 0))] : Hp)) Tryd.func39 rfl rfl (Nat.le_of_ble_eq_true rfl) (fun h hh => by rw [List.mem_singleton.1 hh]; exact ⟨ht.out, by simp⟩) (by simp) fun a w st => ?_
  refine x_seq ?_
  refine x_region ?_
  refine xseg 1 st rfl ?_
  clear st a; intro a st
  refine x_nil ?_
  refine x_seq ?_
  refine x_seq ?_
  refine x_region ?_
  refine xseg 1 st rfl ?_
  clear st a; intro a st
  refine x_run (v := .bool false) st (r_eqNil (neq := false) (b := false) st rfl rfl (.inr ⟨⟨_, _, rfl⟩, rfl⟩) ui27) rfl rfl (by decide) ?_
  clear st a; intro a st
  refine x_nil ?_
  refine x_condF st rfl ?_
  refine wp_skip ?_
  refine x_seq ?_
  refine x_seq ?_
  refine x_region ?_
  refine xseg 1 st rfl ?_
  clear st a; intro a st
  refine x_run (v := .bool false) st (r_eqNil (neq := false) (b := false) st rfl rfl (.inr ⟨⟨_, _, rfl⟩, rfl⟩) ui20) rfl rfl (by decide) ?_
  clear st a; intro a st
  refine x_nil ?_
  refine x_condF st rfl ?_
  refine wp_skip ?_
  refine x_seq ?_
  refine x_region ?_
  refine xseg 1 st rfl ?_
  clear st a; intro a st
  refine x_extA (V := fun b => .agg #[.pointer (some ⟨3, 79, none⟩), .pointer (some ⟨b, 0, none⟩), .int .u64 150]) st rfl rfl (vo_ptr _) rfl rfl (by decide) ?_
  clear st a; intro a w vb st
  refine x_alloc st rfl z103 rfl rfl (by decide) ?_
  clear st a; intro a w b1 st
  refine x_store st 0 rfl rfl rfl rfl (run_storeW (st.at 0 rfl) s103 rfl (by first | rfl | simp [Value.oneCell'])) rfl rfl ?_
  clear st a w; intro a w st
  replace st := st.cast rfl (show _ = ([(b1, .cells (#[.pointer (some ⟨3, 79, none⟩), .pointer (some ⟨vb, 0, none⟩), .int .u64 150]) 103 (0, 0)), (vb, .cells (#[.pointer (some ⟨t, 0, none⟩)]) 79 (0, 0)), (t, .cells (#[old]) 44 (0, 0))] : Hp) from rfl)
  refine x_nil ?_
  refine x_seq ?_
  refine x_region ?_
  refine x_run (v := .agg (#[.pointer (some ⟨3, 79, none⟩), .pointer (some ⟨vb, 0, none⟩), .int .u64 150])) st (r_load st rfl rfl (run_loadW (st.at 0 rfl) r103.choose_spec.1 r103.choose_spec.2 s103 rfl)) rfl rfl (by decide) ?_
  clear st a; intro a st
  refine x_run (v := .iface 117 (.agg (#[.pointer (some ⟨3, 79, none⟩)]))) st (r_extern st rfl rfl (ty_ptr _ _)) rfl rfl (by decide) ?_
  clear st a; intro a st
  refine xseg 1 st rfl ?_
  clear st a; intro a st
  refine x_nil ?_
  refine x_seq ?_
  refine x_seq ?_
  refine x_region ?_
  refine xseg 1 st rfl ?_
  clear st a; intro a st
  refine x_run (v := .int .u8 22) st (r_invoke st rfl rfl rfl (kind_ptr _)) rfl rfl (by decide) ?_
  clear st a; intro a st
  refine xp st (.bool false) rfl rfl rfl rfl (by decide) ?_
  clear st a; intro a st
  refine xseg 1 st rfl ?_
  clear st a; intro a st
  refine x_unguard st (b := false) rfl rfl rfl ?_
  refine x_run (v := .agg (#[.pointer (some ⟨3, 79, none⟩), .pointer (some ⟨vb, 0, none⟩), .int .u64 150])) st (r_load st rfl rfl (run_loadW (st.at 0 rfl) r103.choose_spec.1 r103.choose_spec.2 s103 rfl)) rfl rfl (by decide) ?_
  clear st a; intro a st
  refine x_unguard st (b := false) rfl rfl rfl ?_
  refine x_run (v := .bool false) st (r_extern st rfl rfl (isnil_ptr _ _ _ (st.at 1 rfl))) rfl rfl (by decide) ?_
  clear st a; intro a st
  refine xseg 1 st rfl ?_
  clear st a; intro a st
  refine x_nil ?_
  refine x_condF st rfl ?_
  refine wp_skip ?_
  refine x_seq ?_
  refine x_region ?_
  refine xseg 1 st rfl ?_
  clear st a; intro a st
  refine x_run (v := .iface 117 (.agg (#[.pointer (some ⟨3, 44, none⟩)]))) st (r_invoke st rfl rfl rfl (elem_ptr _)) rfl rfl (by decide) ?_
  clear st a; intro a st
  refine xseg 1 st rfl ?_
  clear st a; intro a st
  refine x_nil ?_
  refine x_seq ?_
  refine x_seq ?_
  refine x_region ?_
  refine xseg 1 st rfl ?_
  clear st a; intro a st
  refine x_run (v := .int .u8 2) st (r_invoke st rfl rfl rfl (kind_no _)) rfl rfl (by decide) ?_
  clear st a; intro a st
  refine xp st (.bool true) rfl rfl rfl rfl (by decide) ?_
  clear st a; intro a st
  refine xseg 1 st rfl ?_
  clear st a; intro a st
  refine x_unguard st (b := true) rfl rfl rfl ?_
  refine xseg 1 st rfl ?_
  clear st a; intro a st
  refine x_unguard st (b := true) rfl rfl rfl ?_
  refine x_run (v := .iface 117 (.agg (#[.pointer (some ⟨3, 27, none⟩)]))) st (r_load st rfl rfl (load_glob (hG.out.keep st.keeps (by simpa using Ne.symm ht0)))) rfl rfl (by decide) ?_
  clear st a; intro a st
  refine x_unguard st (b := true) rfl rfl rfl ?_
  refine x_run (v := .bool true) st (r_invoke st rfl rfl rfl (impl_no _)) rfl rfl (by decide) ?_
  clear st a; intro a st
  refine x_unguard st (b := true) rfl rfl rfl ?_
  refine xseg 2 st rfl ?_
  clear st a; intro a st
  refine x_nil ?_
  refine x_condF st rfl ?_
  refine wp_skip ?_
  refine x_seq ?_
  refine x_region ?_
  refine xseg 2 st rfl ?_
  clear st a; intro a st
  refine x_run (v := .agg (#[.pointer (some ⟨3, 79, none⟩), .pointer (some ⟨vb, 0, none⟩), .int .u64 150])) st (r_load st rfl rfl (run_loadW (st.at 0 rfl) r103.choose_spec.1 r103.choose_spec.2 s103 rfl)) rfl rfl (by decide) ?_
  clear st a; intro a st
  refine xseg 1 st rfl ?_
  clear st a; intro a st
  refine x_callD st 2 rfl rfl ent55 rfl rfl (by decide) rfl (as_ok (st.old hb.out (by simpa using hbt)) (st.at 2 rfl) (st.at 1 rfl) hbt (st.ne 1 2 rfl rfl (by decide))) ?_
  intro a1 w1 v1 hk1 hv hn st1; obtain ⟨rfl, hbx⟩ := hv; replace st1 := st1 _ hbx; clear hn hk1 hbx st a w; revert st1; revert a1; revert w1; intro w a st
  replace st := st.cast rfl (show _ = ([(b1, .cells (#[.pointer (some ⟨3, 79, none⟩), .pointer (some ⟨vb, 0, none⟩), .int .u64 150]) 103 (0, 0)), (vb, .cells (#[.pointer (some ⟨t, 0, none⟩)]) 79 (0, 0)), (t, .cells (#[.int .i64 n]) 44 (0, 0))] : Hp) from rfl)
  refine xseg 1 st rfl ?_
  clear st a; intro a st
  refine x_nil ?_
  refine x_wpret ?_
  exact x_retp st [.bool true] rfl ⟨rfl, trivial⟩ rfl (⟨rfl, st.at 2 rfl⟩)

set_option maxRecDepth 20000 in
set_option maxHeartbeats 1000000 in
theorem Code_ok {w0 : World} {b : Nat} {op : ByteArray} {n : Int} (hG : Hid (Glob w0)) (hb : Hid (w0.heap[b]? = some (errObj op n)))  :
    Fn Tryd.prog 25 [.iface 80 (.pointer (some ⟨b, 0, none⟩))] w0 [] (fun v _ => v = .int .i64 n) := by
  refine x_enter' (n := 12) Tryd.func25 rfl rfl (Nat.le_of_ble_eq_true rfl) fun a w st => ?_
  refine x_seq ?_
  refine x_region ?_
  refine xseg 1 st rfl ?_
  clear st a; intro a st
  refine x_nil ?_
  refine x_seq ?_
  refine x_region ?_
  refine x_alloc st rfl z44 rfl rfl (by decide) ?_
  clear st a; intro a w b1 st
  refine x_nil ?_
  refine x_seq ?_
  refine wp_block ?_
  refine x_seq ?_
  refine x_region ?_
  refine xseg 1 st rfl ?_
  clear st a; intro a st
  refine x_run (v := .bool false) st (r_eqNil (neq := false) (b := false) st rfl rfl (.inr ⟨⟨_, _, rfl⟩, rfl⟩) ui27) rfl rfl (by decide) ?_
  clear st a; intro a st
  refine xseg 1 st rfl ?_
  clear st a; intro a st
  refine x_nil ?_
  refine x_condF st rfl ?_
  refine x_seq ?_
  refine x_region ?_
  refine xseg 1 st rfl ?_
  clear st a; intro a st
  refine x_run (v := .iface 79 (.pointer (some ⟨b1, 0, none⟩))) st (r_mkI st rfl rfl mi79) rfl rfl (by decide) ?_
  clear st a; intro a st
  refine x_callD st 0 rfl rfl ent39 rfl rfl (by decide) rfl (As_ok (hG.out.keep st.keeps (by simp)) (st.old hb.out (by simp)) (st.at 0 rfl) (st.ne_old 0 rfl (lt_of_get hb.out)) (st.ne_old 0 rfl hG.out.pos).symm) ?_
  intro a1 w1 v1 hk1 hv hn st1; obtain ⟨rfl, hbx⟩ := hv; replace st1 := st1 _ hbx; clear hn hk1 hbx st a w; revert st1; revert a1; revert w1; intro w a st
  replace st := st.cast rfl (show _ = ([(b1, .cells (#[.int .i64 n]) 44 (0, 0))] : Hp) from rfl)
  refine xseg 1 st rfl ?_
  clear st a; intro a st
  refine x_nil ?_
  refine x_condT st rfl ?_
  refine x_seq ?_
  refine x_region ?_
  refine x_run (v := .int .i64 n) st (r_load st rfl rfl (run_load1 (st.at 0 rfl) u44 rfl rfl)) rfl rfl (by decide) ?_
  clear st a; intro a st
  refine xseg 1 st rfl ?_
  clear st a; intro a st
  refine x_nil ?_
  refine x_wpret ?_
  refine x_blockRet ?_
  refine x_thenRet ?_
  exact x_retp st [.int .i64 n] rfl ⟨rfl, trivial⟩ rfl (rfl)

set_option maxRecDepth 20000 in
set_option maxHeartbeats 1000000 in
theorem within_f {w0 : World} {b : Nat} {op : ByteArray} {n : Int} (hb : Hid (w0.heap[b]? = some (errObj op n)))  :
    Fn Tryd.prog 38 [.iface 80 (.pointer (some ⟨b, 0, none⟩))] w0 [] (fun v w' => ∃ c, v = .tuple #[.slice (some ⟨c, 0, none⟩) 1 1, .iface 44 (.int .i64 n)] ∧ w'.heap[c]? = some (.cells #[.string op] 9 (0, 0)) ∧ w0.heap.size ≤ c) := by
  refine x_enter' (n := 36) Tryd.func38 rfl rfl (Nat.le_of_ble_eq_true rfl) fun a w st => ?_
  refine x_seq ?_
  refine x_region ?_
  refine xseg 2 st rfl ?_
  clear st a; intro a st
  refine x_nil ?_
  refine x_seq ?_
  refine x_seq ?_
  refine x_region ?_
  refine xseg 1 st rfl ?_
  clear st a; intro a st
  refine x_run (v := .tuple #[.nilIface, .bool false]) st (r_tassert st rfl rfl (ta80_27_94 _ _)) rfl rfl (by decide) ?_
  clear st a; intro a st
  refine xseg 5 st rfl ?_
  clear st a; intro a st
  refine x_nil ?_
  refine x_seq ?_
  refine x_region ?_
  refine xseg 1 st rfl ?_
  clear st a; intro a st
  refine x_nil ?_
  refine x_condF st rfl ?_
  refine wp_skip ?_
  refine x_seq ?_
  refine x_seq ?_
  refine x_region ?_
  refine xseg 1 st rfl ?_
  clear st a; intro a st
  refine x_run (v := .tuple #[.pointer (some ⟨b, 0, none⟩), .bool true]) st (r_tassert st rfl rfl (ta80_27_80 _ _)) rfl rfl (by decide) ?_
  clear st a; intro a st
  refine xseg 5 st rfl ?_
  clear st a; intro a st
  refine x_nil ?_
  refine x_seq ?_
  refine x_region ?_
  refine xseg 2 st rfl ?_
  clear st a; intro a st
  refine x_unguard st (b := true) rfl rfl rfl ?_
  refine xseg 1 st rfl ?_
  clear st a; intro a st
  refine x_unguard st (b := true) rfl rfl rfl ?_
  refine x_run (v := .bool true) st (r_eqPtrNil (neq := true) (b := false) st rfl rfl (.inr ⟨⟨_, rfl⟩, rfl⟩) u80) rfl rfl (by decide) ?_
  clear st a; intro a st
  refine xseg 1 st rfl ?_
  clear st a; intro a st
  refine x_nil ?_
  refine x_condT st rfl ?_
  refine x_seq ?_
  refine x_drawT (HB := []) (H := ([] : Hp)) st [3, 4, 8] [] [.det (.pointer (some ⟨b, 0, none⟩)), .det (.pointer (some ⟨b, 0, none⟩)), .det (.pointer (some ⟨b, 0, none⟩)), .det undef, .det undef, .det (.pointer (some ⟨b, 0, none⟩)), .det (.pointer (some ⟨b, 0, none⟩)), .det (.pointer (some ⟨b, 1, none⟩)), .det undef, .det undef, .det undef] mixed (by kernel_rfl) rfl trivial
    ⟨ob_p (Fi := [(6, .pointer (some ⟨b, 0, none⟩))]) (by kernel_rfl) rfl rfl ⟨by kernel_rfl, trivial⟩ rfl rfl,
      ob_run (Fi := [(27, .pointer (some ⟨b, 0, none⟩))]) (by kernel_rfl) rfl rfl ⟨by kernel_rfl, trivial⟩ (fun a w st hk hxx w' => r_nilCheck st rfl rfl),
      ob_run (Fi := [(28, .pointer (some ⟨b, 0, none⟩))]) (by kernel_rfl) rfl rfl ⟨by kernel_rfl, trivial⟩ (fun a w st hk hxx w' => r_field st rfl rfl o82_0),
      ob_store (by kernel_rfl),
      ob_store (by kernel_rfl),
      ob_p (Fi := [(6, .pointer (some ⟨b, 0, none⟩))]) (by kernel_rfl) rfl rfl ⟨by kernel_rfl, trivial⟩ rfl rfl,
      ob_run (Fi := [(32, .pointer (some ⟨b, 0, none⟩))]) (by kernel_rfl) rfl rfl ⟨by kernel_rfl, trivial⟩ (fun a w st hk hxx w' => r_nilCheck st rfl rfl),
      ob_run (Fi := [(33, .pointer (some ⟨b, 0, none⟩))]) (by kernel_rfl) rfl rfl ⟨by kernel_rfl, trivial⟩ (fun a w st hk hxx w' => r_field st rfl rfl o82_1),
      ob_store (by kernel_rfl),
      ob_store (by kernel_rfl),
      ob_store (by kernel_rfl), trivial⟩ ?_
  intro a1 w1 hk1 st1 he hput hback; clear hput hback
  clear hk1 st a w; revert st1 he; revert a1; revert w1; intro w a st he
  replace st := st.pickTo (F' := [(0, .iface 80 (.pointer (some ⟨b, 0, none⟩))), (2, .slice none 0 0), (3, .nilIface), (9, .iface 80 (.pointer (some ⟨b, 0, none⟩))), (10, .tuple #[.nilIface, .bool false]), (8, .tuple #[.nilIface, .bool false]), (11, .nilIface), (12, .bool false), (4, .nilIface), (5, .bool false), (13, .bool false), (18, .iface 80 (.pointer (some ⟨b, 0, none⟩))), (19, .tuple #[.pointer (some ⟨b, 0, none⟩), .bool true]), (17, .tuple #[.pointer (some ⟨b, 0, none⟩), .bool true]), (20, .pointer (some ⟨b, 0, none⟩)), (21, .bool true), (6, .pointer (some ⟨b, 0, none⟩)), (7, .bool true), (22, .bool true), (23, .bool true), (24, .pointer (some ⟨b, 0, none⟩)), (25, .bool true), (26, .bool true), (29, .pointer (some ⟨b, 0, none⟩)), (34, .pointer (some ⟨b, 1, none⟩))]) [0, 2, 3, 9, 10, 8, 11, 12, 4, 5, 13, 18, 19, 17, 20, 21, 6, 7, 22, 23, 24, 25, 26, 29, 34] (by kernel_rfl)
  clear he
  change Wt _ _ _ 5 [3, 4, 8, 9, 10] _ _
  refine Wt.two (k := 3) (j := 8) (r := [4, 8, 9, 10]) (s := [3, 4, 9, 10]) (by kernel_rfl) rfl rfl rfl rfl ?_ ?_
  · refine x_run (v := .string op) st (r_load st rfl rfl (run_load1 (st.old hb.out (by simp)) u9 rfl rfl)) rfl rfl (by decide) ?_
    clear st a; intro a st
    refine x_nil ?_
    refine QK.normal ?_
    refine Wt.two (k := 4) (j := 8) (r := [8, 9, 10]) (s := [4, 9, 10]) (by kernel_rfl) rfl rfl rfl rfl ?_ ?_
    · refine x_bslice st rfl rfl (bsl59_1_1 _) rfl rfl (by decide) ?_
      clear st a; intro a w b1 st
      refine x_nil ?_
      refine QK.normal ?_
      refine Wt.two (k := 8) (j := 9) (r := [9, 10]) (s := [8, 10]) (by kernel_rfl) rfl rfl rfl rfl ?_ ?_
      · refine x_run (v := .iface 44 (.int .i64 n)) st (r_load st rfl rfl (run_load1 (st.old hb.out (by simp)) r27.choose_spec.1 r27.choose_spec.2 rfl)) rfl rfl (by decide) ?_
        clear st a; intro a st
        refine x_nil ?_
        refine QK.normal ?_
        refine Wt.one (k := 9) (r := [10]) (by kernel_rfl) rfl rfl ?_
        refine xseg 1 st rfl ?_
        clear st a; intro a st
        refine x_nil ?_
        refine QK.normal ?_
        refine Wt.one (k := 10) (r := []) (by kernel_rfl) rfl rfl ?_
        refine xseg 1 st rfl ?_
        clear st a; intro a st
        refine x_nil ?_
        refine QK.normal ?_
        refine Wt.nil ?_
        show NP _ _ _ _
        refine NP.normal ?_
        refine x_wpret ?_
        refine x_thenRet ?_
        exact x_retp st [.slice (some ⟨b1, 0, none⟩) 1 1, .iface 44 (.int .i64 n)] rfl ⟨rfl, rfl, trivial⟩ rfl (⟨_, rfl, st.at 0 rfl, (st.own _ (List.mem_of_getElem? (i := 0) rfl)).resolve_left (by simp)⟩)
      · refine xseg 1 st rfl ?_
        clear st a; intro a st
        refine x_nil ?_
        refine QK.normal ?_
        refine Wt.one (k := 8) (r := [10]) (by kernel_rfl) rfl rfl ?_
        refine x_run (v := .iface 44 (.int .i64 n)) st (r_load st rfl rfl (run_load1 (st.old hb.out (by simp)) r27.choose_spec.1 r27.choose_spec.2 rfl)) rfl rfl (by decide) ?_
        clear st a; intro a st
        refine x_nil ?_
        refine QK.normal ?_
        refine Wt.one (k := 10) (r := []) (by kernel_rfl) rfl rfl ?_
        refine xseg 1 st rfl ?_
        clear st a; intro a st
        refine x_nil ?_
        refine QK.normal ?_
        refine Wt.nil ?_
        show NP _ _ _ _
        refine NP.normal ?_
        refine x_wpret ?_
        refine x_thenRet ?_
        exact x_retp st [.slice (some ⟨b1, 0, none⟩) 1 1, .iface 44 (.int .i64 n)] rfl ⟨rfl, rfl, trivial⟩ rfl (⟨_, rfl, st.at 0 rfl, (st.own _ (List.mem_of_getElem? (i := 0) rfl)).resolve_left (by simp)⟩)
    · refine x_run (v := .iface 44 (.int .i64 n)) st (r_load st rfl rfl (run_load1 (st.old hb.out (by simp)) r27.choose_spec.1 r27.choose_spec.2 rfl)) rfl rfl (by decide) ?_
      clear st a; intro a st
      refine x_nil ?_
      refine QK.normal ?_
      refine Wt.one (k := 4) (r := [9, 10]) (by kernel_rfl) rfl rfl ?_
      refine x_bslice st rfl rfl (bsl59_1_1 _) rfl rfl (by decide) ?_
      clear st a; intro a w b2 st
      refine x_nil ?_
      refine QK.normal ?_
      refine Wt.one (k := 9) (r := [10]) (by kernel_rfl) rfl rfl ?_
      refine xseg 1 st rfl ?_
      clear st a; intro a st
      refine x_nil ?_
      refine QK.normal ?_
      refine Wt.one (k := 10) (r := []) (by kernel_rfl) rfl rfl ?_
      refine xseg 1 st rfl ?_
      clear st a; intro a st
      refine x_nil ?_
      refine QK.normal ?_
      refine Wt.nil ?_
      show NP _ _ _ _
      refine NP.normal ?_
      refine x_wpret ?_
      refine x_thenRet ?_
      exact x_retp st [.slice (some ⟨b2, 0, none⟩) 1 1, .iface 44 (.int .i64 n)] rfl ⟨rfl, rfl, trivial⟩ rfl (⟨_, rfl, st.at 0 rfl, (st.own _ (List.mem_of_getElem? (i := 0) rfl)).resolve_left (by simp)⟩)
  · refine x_run (v := .iface 44 (.int .i64 n)) st (r_load st rfl rfl (run_load1 (st.old hb.out (by simp)) r27.choose_spec.1 r27.choose_spec.2 rfl)) rfl rfl (by decide) ?_
    clear st a; intro a st
    refine x_nil ?_
    refine QK.normal ?_
    refine Wt.one (k := 3) (r := [4, 9, 10]) (by kernel_rfl) rfl rfl ?_
    refine x_run (v := .string op) st (r_load st rfl rfl (run_load1 (st.old hb.out (by simp)) u9 rfl rfl)) rfl rfl (by decide) ?_
    clear st a; intro a st
    refine x_nil ?_
    refine QK.normal ?_
    refine Wt.one (k := 4) (r := [9, 10]) (by kernel_rfl) rfl rfl ?_
    refine x_bslice st rfl rfl (bsl59_1_1 _) rfl rfl (by decide) ?_
    clear st a; intro a w b3 st
    refine x_nil ?_
    refine QK.normal ?_
    refine Wt.one (k := 9) (r := [10]) (by kernel_rfl) rfl rfl ?_
    refine xseg 1 st rfl ?_
    clear st a; intro a st
    refine x_nil ?_
    refine QK.normal ?_
    refine Wt.one (k := 10) (r := []) (by kernel_rfl) rfl rfl ?_
    refine xseg 1 st rfl ?_
    clear st a; intro a st
    refine x_nil ?_
    refine QK.normal ?_
    refine Wt.nil ?_
    show NP _ _ _ _
    refine NP.normal ?_
    refine x_wpret ?_
    refine x_thenRet ?_
    exact x_retp st [.slice (some ⟨b3, 0, none⟩) 1 1, .iface 44 (.int .i64 n)] rfl ⟨rfl, rfl, trivial⟩ rfl (⟨_, rfl, st.at 0 rfl, (st.own _ (List.mem_of_getElem? (i := 0) rfl)).resolve_left (by simp)⟩)

set_option maxRecDepth 20000 in
set_option maxHeartbeats 1000000 in
theorem within_n  (n : Int) (w0 : World) :
    Fn Tryd.prog 38 [.iface 44 (.int .i64 n)] w0 [] (fun v _ => v = .tuple #[.slice none 0 0, .nilIface]) := by
  refine x_enter' (n := 36) Tryd.func38 rfl rfl (Nat.le_of_ble_eq_true rfl) fun a w st => ?_
  refine x_seq ?_
  refine x_region ?_
  refine xseg 2 st rfl ?_
  clear st a; intro a st
  refine x_nil ?_
  refine x_seq ?_
  refine x_seq ?_
  refine x_region ?_
  refine xseg 1 st rfl ?_
  clear st a; intro a st
  refine x_run (v := .tuple #[.nilIface, .bool false]) st (r_tassert st rfl rfl (ta44_27_94 _ _)) rfl rfl (by decide) ?_
  clear st a; intro a st
  refine xseg 5 st rfl ?_
  clear st a; intro a st
  refine x_nil ?_
  refine x_seq ?_
  refine x_region ?_
  refine xseg 1 st rfl ?_
  clear st a; intro a st
  refine x_nil ?_
  refine x_condF st rfl ?_
  refine wp_skip ?_
  refine x_seq ?_
  refine x_seq ?_
  refine x_region ?_
  refine xseg 1 st rfl ?_
  clear st a; intro a st
  refine x_run (v := .tuple #[.pointer none, .bool false]) st (r_tassert st rfl rfl (ta44_27_80 _ _)) rfl rfl (by decide) ?_
  clear st a; intro a st
  refine xseg 5 st rfl ?_
  clear st a; intro a st
  refine x_nil ?_
  refine x_seq ?_
  refine x_region ?_
  refine xseg 2 st rfl ?_
  clear st a; intro a st
  refine x_skip st (b := true) (c := false) rfl rfl rfl (by decide) rfl (by decide) ?_
  clear st a; intro a st
  refine x_skip st (b := true) (c := false) rfl rfl rfl (by decide) rfl (by decide) ?_
  clear st a; intro a st
  refine xseg 1 st rfl ?_
  clear st a; intro a st
  refine x_nil ?_
  refine x_condF st rfl ?_
  refine wp_skip ?_
  refine x_seq ?_
  refine x_region ?_
  refine xseg 2 st rfl ?_
  clear st a; intro a st
  refine x_nil ?_
  refine x_wpret ?_
  exact x_retp st [.slice none 0 0, .nilIface] rfl ⟨rfl, rfl, trivial⟩ rfl (rfl)

theorem r_eqSame {P : Program} {w0 w w' : World} {D : List Nat} {n : Nat} {F : Fr} {H : Hp} {a : Act} {o : Oper} (st : St w0 D n F H a w) {t ty : TypeId} {x y : Operand} {u : ByteArray} (ho : o.op = .binOp .eql t x y ty) (hx : evF F x = some (.string u)) (hy : evF F y = some (.string u)) :
    (execOp a.eval o).run P w' = .ok (.value (.bool true)) w' := by
  have h := r_eqStr (P := P) (w' := w') (neq := false) st ho hx hy
  rw [beq_self_eq_true] at h
  exact h
theorem hnew1 {w : World} {b : Nat} {v : Value} {e : TypeId} (h : w.heap[b]? = some (.cells #[v] e (0, 0))) : ∀ (j : Nat) (u : Value), [v][j]? = some u → w.cell? ((⟨b, 0, none⟩ : Addr).add j) = some u := fun j u hj => by
  have hlt : j < 1 := (List.getElem?_eq_some_iff.1 hj).1
  have : j = 0 := by omega
  subst this
  rw [addr_add]
  simp [World.cell?, h]
  simpa using hj

set_option maxRecDepth 20000 in
set_option maxHeartbeats 1000000 in
theorem Ops_ok {w0 : World} {b : Nat} {op : ByteArray} {n : Int} (hb : Hid (w0.heap[b]? = some (errObj op n)))  :
    Fn Tryd.prog 24 [.iface 80 (.pointer (some ⟨b, 0, none⟩))] w0 [] (fun v w' => ∃ c cap cur, v = .slice (some ⟨c, 0, none⟩) 1 cap ∧ w'.heap[c]? = some (.cells cur 9 (0, 0)) ∧ Cut cur [.string op] ∧ w0.heap.size ≤ c) := by
  refine x_enter' (n := 18) Tryd.func24 rfl rfl (Nat.le_of_ble_eq_true rfl) fun a w st => ?_
  refine x_seq ?_
  refine x_region ?_
  refine xseg 1 st rfl ?_
  clear st a; intro a st
  refine x_nil ?_
  refine x_seq ?_
  refine x_region ?_
  refine xseg 1 st rfl ?_
  clear st a; intro a st
  refine x_nil ?_
  refine x_seq ?_
  refine wp_block ?_
  refine wp_loop_rounds 3 ?_
  rw [rounds_succ]
  refine x_seq ?_
  refine x_seq ?_
  refine x_region ?_
  refine xseg 1 st rfl ?_
  clear st a; intro a st
  refine x_run (v := .bool true) st (r_eqNil (neq := true) (b := false) st rfl rfl (.inr ⟨⟨_, _, rfl⟩, rfl⟩) ui27) rfl rfl (by decide) ?_
  clear st a; intro a st
  refine x_nil ?_
  refine x_condT st rfl ?_
  refine wp_skip ?_
  refine wp_block ?_
  refine x_seq ?_
  refine x_region ?_
  refine xseg 1 st rfl ?_
  clear st a; intro a st
  refine x_call st rfl rfl ent38 rfl rfl (by decide) (within_f (st.old hb.out (by simp))) ?_
  intro a1 w1 v1 hk1 hv hn st1; obtain ⟨b1, rfl, hbx, hlx⟩ := hv; replace st1 := st1.add hbx (hn b1 hlx); clear hn hk1 hbx hlx st a w; revert st1; revert a1; revert w1; intro w a st
  refine xseg 5 st rfl ?_
  clear st a; intro a st
  refine x_nil ?_
  refine x_region ?_
  refine xseg 2 st rfl ?_
  clear st a; intro a st
  refine x_appendN (size := 1) (news := [.string op]) st rfl rfl rfl u59 z9 s9 bt9 rfl rfl (hnew1 (st.at 0 rfl)) (by decide) (by decide) (by decide) rfl rfl (by decide) ?_
  clear st a; intro a w1 c cap cur hcap hcm hcs hcut hk st; clear hk w; revert st; revert w1; intro w st
  refine xseg 3 st rfl ?_
  clear st a; intro a st
  refine x_nil ?_
  show Code.rounds _ _ _ _ _ _
  rw [rounds_succ]
  refine x_seq ?_
  refine x_seq ?_
  refine x_region ?_
  refine xseg 1 st rfl ?_
  clear st a; intro a st
  refine x_run (v := .bool true) st (r_eqNil (neq := true) (b := false) st rfl rfl (.inr ⟨⟨_, _, rfl⟩, rfl⟩) ui27) rfl rfl (by decide) ?_
  clear st a; intro a st
  refine x_nil ?_
  refine x_condT st rfl ?_
  refine wp_skip ?_
  refine wp_block ?_
  refine x_seq ?_
  refine x_region ?_
  refine xseg 1 st rfl ?_
  clear st a; intro a st
  refine x_call st rfl rfl ent38 rfl rfl (by decide) ((within_n n _)) ?_
  intro a1 w1 v1 hk1 hv hn st1; subst hv
  clear hn hk1 st a w; revert st1; revert a1; revert w1; intro w a st
  refine xseg 5 st rfl ?_
  clear st a; intro a st
  refine x_nil ?_
  refine x_region ?_
  refine xseg 2 st rfl ?_
  clear st a; intro a st
  refine x_run (v := .slice (some ⟨c, 0, none⟩) 1 cap) st (r_append st rfl rfl rfl (run_append0 u59 s9 _ _ _ hcap _)) rfl rfl (by decide) ?_
  clear st a; intro a st
  refine xseg 3 st rfl ?_
  clear st a; intro a st
  refine x_nil ?_
  show Code.rounds _ _ _ _ _ _
  rw [rounds_succ]
  refine x_seq ?_
  refine x_seq ?_
  refine x_region ?_
  refine xseg 1 st rfl ?_
  clear st a; intro a st
  refine x_run (v := .bool false) st (r_eqNil (neq := true) (b := true) st rfl rfl (.inl ⟨rfl, rfl⟩) ui27) rfl rfl (by decide) ?_
  clear st a; intro a st
  refine x_nil ?_
  refine x_condF st rfl ?_
  refine wp_exit ?_
  refine x_thenExit ?_
  refine x_thenExit ?_
  refine x_inBlock ?_
  refine x_seq ?_
  refine x_region ?_
  refine xseg 2 st rfl ?_
  clear st a; intro a st
  refine x_nil ?_
  refine x_wpret ?_
  exact x_retp st [.slice (some ⟨c, 0, none⟩) 1 cap] rfl ⟨rfl, trivial⟩ rfl (⟨_, _, _, rfl, st.at 0 rfl, hcut, (st.own _ (List.mem_of_getElem? (i := 0) rfl)).resolve_left (by simp)⟩)

set_option maxRecDepth 20000 in
set_option maxHeartbeats 1000000 in
theorem says22_t {w0 : World} {b : Nat} {n : Int} (hG : Hid (Glob w0)) (hb : Hid (w0.heap[b]? = some (errObj ⟨#[99, 105, 114, 99, 108, 101]⟩ n))) (hn0 : n ≠ 0)  :
    Fn Tryd.prog 11 [.iface 80 (.pointer (some ⟨b, 0, none⟩)), .int .i64 n] w0 [] (fun v _ => v = .bool true) := by
  refine x_enter' (n := 27) Tryd.func11 rfl rfl (Nat.le_of_ble_eq_true rfl) fun a w st => ?_
  refine x_seq ?_
  refine x_region ?_
  refine xseg 1 st rfl ?_
  clear st a; intro a st
  refine x_nil ?_
  refine x_seq ?_
  refine x_seq ?_
  refine x_region ?_
  refine xseg 1 st rfl ?_
  clear st a; intro a st
  refine xp st (.bool false) rfl (beq (beq_eq_false_iff_ne.2 hn0)) rfl rfl (by decide) ?_
  clear st a; intro a st
  refine x_nil ?_
  refine x_condF st rfl ?_
  refine wp_skip ?_
  refine x_seq ?_
  refine x_region ?_
  refine xseg 1 st rfl ?_
  clear st a; intro a st
  refine x_call st rfl rfl ent24 rfl rfl (by decide) (Ops_ok (st.old hb.out (by simp))) ?_
  intro a1 w1 v1 hk1 hv hn st1; obtain ⟨c, cap, cur, rfl, hbx, hcut, hlx⟩ := hv; replace st1 := st1.add hbx (hn c hlx); clear hn hk1 hbx hlx st a w; revert st1; revert a1; revert w1; intro w a st
  refine xseg 1 st rfl ?_
  clear st a; intro a st
  refine x_nil ?_
  refine x_seq ?_
  refine x_region ?_
  refine xseg 1 st rfl ?_
  clear st a; intro a st
  refine x_call st rfl rfl ent25 rfl rfl (by decide) (Code_ok (hG.out.keep st.keeps (by simp)) (st.old hb.out (by simp))) ?_
  intro a1 w1 v1 hk1 hv hn st1; subst hv
  clear hn hk1 st a w; revert st1; revert a1; revert w1; intro w a st
  refine xseg 1 st rfl ?_
  clear st a; intro a st
  refine xp st (.bool true) rfl (beq (beq_self_eq_true _)) rfl rfl (by decide) ?_
  clear st a; intro a st
  refine xseg 1 st rfl ?_
  clear st a; intro a st
  refine x_unguard st (b := true) rfl rfl rfl ?_
  refine xseg 1 st rfl ?_
  clear st a; intro a st
  refine x_unguard st (b := true) rfl rfl rfl ?_
  refine x_run (v := .int .i64 1) st (r_len st rfl rfl u59) rfl rfl (by decide) ?_
  clear st a; intro a st
  refine x_unguard st (b := true) rfl rfl rfl ?_
  refine xp st (.bool true) rfl rfl rfl rfl (by decide) ?_
  clear st a; intro a st
  refine xseg 2 st rfl ?_
  clear st a; intro a st
  refine x_unguard st (b := true) rfl rfl rfl ?_
  refine xseg 1 st rfl ?_
  clear st a; intro a st
  refine x_unguard st (b := true) rfl rfl rfl ?_
  refine x_run (v := .pointer (some ⟨c, 0, none⟩)) st (r_index st rfl rfl rfl (run_indexS' (k := 0) (off := 0) u59 s9 (by decide) (by first | rfl | omega) _)) rfl rfl (by decide) ?_
  clear st a; intro a st
  refine x_unguard st (b := true) rfl rfl rfl ?_
  refine x_run (v := .string (⟨#[99, 105, 114, 99, 108, 101]⟩)) st (r_load st rfl rfl (run_load1 (st.at 0 rfl) u9 rfl (hcut.get rfl))) rfl rfl (by decide) ?_
  clear st a; intro a st
  refine x_unguard st (b := true) rfl rfl rfl ?_
  refine x_run (v := .bool true) st (r_eqSame st rfl rfl rfl) rfl rfl (by decide) ?_
  clear st a; intro a st
  refine xseg 2 st rfl ?_
  clear st a; intro a st
  refine x_nil ?_
  refine x_wpret ?_
  exact x_retp st [.bool true] rfl ⟨rfl, trivial⟩ rfl (rfl)

set_option maxRecDepth 20000 in
set_option maxHeartbeats 1000000 in
theorem says22_n   (w0 : World) :
    Fn Tryd.prog 11 [.nilIface, .int .i64 0] w0 [] (fun v _ => v = .bool true) := by
  refine x_enter' (n := 27) Tryd.func11 rfl rfl (Nat.le_of_ble_eq_true rfl) fun a w st => ?_
  refine x_seq ?_
  refine x_region ?_
  refine xseg 1 st rfl ?_
  clear st a; intro a st
  refine x_nil ?_
  refine x_seq ?_
  refine x_seq ?_
  refine x_region ?_
  refine xseg 1 st rfl ?_
  clear st a; intro a st
  refine xp st (.bool true) rfl rfl rfl rfl (by decide) ?_
  clear st a; intro a st
  refine x_nil ?_
  refine x_condT st rfl ?_
  refine x_seq ?_
  refine x_region ?_
  refine xseg 1 st rfl ?_
  clear st a; intro a st
  refine x_run (v := .bool true) st (r_eqNil (neq := false) (b := true) st rfl rfl (.inl ⟨rfl, rfl⟩) ui27) rfl rfl (by decide) ?_
  clear st a; intro a st
  refine xseg 1 st rfl ?_
  clear st a; intro a st
  refine x_nil ?_
  refine x_wpret ?_
  refine x_thenRet ?_
  exact x_retp st [.bool true] rfl ⟨rfl, trivial⟩ rfl (rfl)

set_option maxRecDepth 20000 in
set_option maxHeartbeats 1000000 in
theorem says23_t {w0 : World} {b : Nat} {n : Int} (hG : Hid (Glob w0)) (hb : Hid (w0.heap[b]? = some (errObj ⟨#[98, 117, 102, 102, 101, 114]⟩ n))) (hn0 : n ≠ 0)  :
    Fn Tryd.prog 21 [.iface 80 (.pointer (some ⟨b, 0, none⟩)), .int .i64 n] w0 [] (fun v _ => v = .bool true) := by
  refine x_enter' (n := 27) Tryd.func21 rfl rfl (Nat.le_of_ble_eq_true rfl) fun a w st => ?_
  refine x_seq ?_
  refine x_region ?_
  refine xseg 1 st rfl ?_
  clear st a; intro a st
  refine x_nil ?_
  refine x_seq ?_
  refine x_seq ?_
  refine x_region ?_
  refine xseg 1 st rfl ?_
  clear st a; intro a st
  refine xp st (.bool false) rfl (beq (beq_eq_false_iff_ne.2 hn0)) rfl rfl (by decide) ?_
  clear st a; intro a st
  refine x_nil ?_
  refine x_condF st rfl ?_
  refine wp_skip ?_
  refine x_seq ?_
  refine x_region ?_
  refine xseg 1 st rfl ?_
  clear st a; intro a st
  refine x_call st rfl rfl ent24 rfl rfl (by decide) (Ops_ok (st.old hb.out (by simp))) ?_
  intro a1 w1 v1 hk1 hv hn st1; obtain ⟨c, cap, cur, rfl, hbx, hcut, hlx⟩ := hv; replace st1 := st1.add hbx (hn c hlx); clear hn hk1 hbx hlx st a w; revert st1; revert a1; revert w1; intro w a st
  refine xseg 1 st rfl ?_
  clear st a; intro a st
  refine x_nil ?_
  refine x_seq ?_
  refine x_region ?_
  refine xseg 1 st rfl ?_
  clear st a; intro a st
  refine x_call st rfl rfl ent25 rfl rfl (by decide) (Code_ok (hG.out.keep st.keeps (by simp)) (st.old hb.out (by simp))) ?_
  intro a1 w1 v1 hk1 hv hn st1; subst hv
  clear hn hk1 st a w; revert st1; revert a1; revert w1; intro w a st
  refine xseg 1 st rfl ?_
  clear st a; intro a st
  refine xp st (.bool true) rfl (beq (beq_self_eq_true _)) rfl rfl (by decide) ?_
  clear st a; intro a st
  refine xseg 1 st rfl ?_
  clear st a; intro a st
  refine x_unguard st (b := true) rfl rfl rfl ?_
  refine xseg 1 st rfl ?_
  clear st a; intro a st
  refine x_unguard st (b := true) rfl rfl rfl ?_
  refine x_run (v := .int .i64 1) st (r_len st rfl rfl u59) rfl rfl (by decide) ?_
  clear st a; intro a st
  refine x_unguard st (b := true) rfl rfl rfl ?_
  refine xp st (.bool true) rfl rfl rfl rfl (by decide) ?_
  clear st a; intro a st
  refine xseg 2 st rfl ?_
  clear st a; intro a st
  refine x_unguard st (b := true) rfl rfl rfl ?_
  refine xseg 1 st rfl ?_
  clear st a; intro a st
  refine x_unguard st (b := true) rfl rfl rfl ?_
  refine x_run (v := .pointer (some ⟨c, 0, none⟩)) st (r_index st rfl rfl rfl (run_indexS' (k := 0) (off := 0) u59 s9 (by decide) (by first | rfl | omega) _)) rfl rfl (by decide) ?_
  clear st a; intro a st
  refine x_unguard st (b := true) rfl rfl rfl ?_
  refine x_run (v := .string (⟨#[98, 117, 102, 102, 101, 114]⟩)) st (r_load st rfl rfl (run_load1 (st.at 0 rfl) u9 rfl (hcut.get rfl))) rfl rfl (by decide) ?_
  clear st a; intro a st
  refine x_unguard st (b := true) rfl rfl rfl ?_
  refine x_run (v := .bool true) st (r_eqSame st rfl rfl rfl) rfl rfl (by decide) ?_
  clear st a; intro a st
  refine xseg 2 st rfl ?_
  clear st a; intro a st
  refine x_nil ?_
  refine x_wpret ?_
  exact x_retp st [.bool true] rfl ⟨rfl, trivial⟩ rfl (rfl)

set_option maxRecDepth 20000 in
set_option maxHeartbeats 1000000 in
theorem says23_n   (w0 : World) :
    Fn Tryd.prog 21 [.nilIface, .int .i64 0] w0 [] (fun v _ => v = .bool true) := by
  refine x_enter' (n := 27) Tryd.func21 rfl rfl (Nat.le_of_ble_eq_true rfl) fun a w st => ?_
  refine x_seq ?_
  refine x_region ?_
  refine xseg 1 st rfl ?_
  clear st a; intro a st
  refine x_nil ?_
  refine x_seq ?_
  refine x_seq ?_
  refine x_region ?_
  refine xseg 1 st rfl ?_
  clear st a; intro a st
  refine xp st (.bool true) rfl rfl rfl rfl (by decide) ?_
  clear st a; intro a st
  refine x_nil ?_
  refine x_condT st rfl ?_
  refine x_seq ?_
  refine x_region ?_
  refine xseg 1 st rfl ?_
  clear st a; intro a st
  refine x_run (v := .bool true) st (r_eqNil (neq := false) (b := true) st rfl rfl (.inl ⟨rfl, rfl⟩) ui27) rfl rfl (by decide) ?_
  clear st a; intro a st
  refine xseg 1 st rfl ?_
  clear st a; intro a st
  refine x_nil ?_
  refine x_wpret ?_
  refine x_thenRet ?_
  exact x_retp st [.bool true] rfl ⟨rfl, trivial⟩ rfl (rfl)

end Go.Proofs.YtnkbhmonceiocaaDoor
