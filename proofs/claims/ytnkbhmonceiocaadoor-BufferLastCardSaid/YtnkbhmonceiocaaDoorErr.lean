/-
  Errors of the package fault: what Wrap makes.
-/
import Derived.Test.YtnkbhmonceiocaaDoorRun2
import Derived.Test.YtnkbhmonceiocaaDoorProg
namespace Go.Proofs.YtnkbhmonceiocaaDoor
open Go Go.RowKit
namespace FErr
theorem bldF (op : ByteArray) (n : Int) (w : World) : (Instr.build 82 #[(0, .string op), (1, .iface 44 (.int .i64 n))]).run Tryd.prog w = .ok (.agg #[.string op, .iface 44 (.int .i64 n)]) w := by kernel_rfl
theorem ent26 (args : Array Value) (w : World) : (callFunc 26 args).run Tryd.prog w = .ok (.enter 26 args) w := enters_at Tryd.func26 (by kernel_rfl) rfl args w
theorem mi44 (v : Value) (w : World) : (Instr.makeInterface 44 v).run Tryd.prog w = .ok (.iface 44 v) w := by kernel_rfl
theorem mi80 (v : Value) (w : World) : (Instr.makeInterface 80 v).run Tryd.prog w = .ok (.iface 80 v) w := by kernel_rfl
theorem ui27 : ∃ ms, Tryd.prog.underlying 27 = some (.interface ms) := ⟨_, Tryd.underlying27⟩
end FErr
open FErr
/-- What an error of the package fault holds. -/
abbrev errObj (op : ByteArray) (n : Int) : Obj := .cells #[.string op, .iface 44 (.int .i64 n)] 82 (0, 0)
/-- No error, or one that was made in the call. -/
def ErrV (w0 w : World) (op : ByteArray) (n : Int) (u : Value) : Prop := (n = 0 ∧ u = .nilIface) ∨ (n ≠ 0 ∧ ∃ b, u = .iface 80 (.pointer (some ⟨b, 0, none⟩)) ∧ w.heap[b]? = some (errObj op n) ∧ w0.heap.size ≤ b)

set_option maxRecDepth 20000 in
set_option maxHeartbeats 1000000 in
theorem Wrap_ok  (op : ByteArray) (n : Int) (w0 : World) :
    Fn Tryd.prog 26 [.string op, .iface 44 (.int .i64 n)] w0 [] (fun v w' => ∃ b, v = .iface 80 (.pointer (some ⟨b, 0, none⟩)) ∧ w'.heap[b]? = some (errObj op n) ∧ w0.heap.size ≤ b) := by
  refine x_enter' (n := 12) Tryd.func26 rfl rfl (Nat.le_of_ble_eq_true rfl) fun a w st => ?_
  refine x_seq ?_
  refine x_region ?_
  refine xseg 1 st rfl ?_
  clear st a; intro a st
  refine x_nil ?_
  refine x_seq ?_
  refine x_seq ?_
  refine x_region ?_
  refine xseg 1 st rfl ?_
  clear st a; intro a st
  refine x_run (v := .bool false) st (r_eqNil (neq := false) (b := false) st rfl rfl (.inr ⟨⟨_, _, rfl⟩, rfl⟩) ui27) rfl rfl (by decide) ?_
  clear st a; intro a st
  refine x_nil ?_
  refine x_condF st rfl ?_
  refine wp_skip ?_
  refine x_seq ?_
  refine x_region ?_
  refine xseg 2 st rfl ?_
  clear st a; intro a st
  refine x_run (v := .agg (#[.string op, .iface 44 (.int .i64 n)])) st (r_build st rfl rfl (bldF _ _ _)) rfl rfl (by decide) ?_
  clear st a; intro a st
  refine x_box st rfl rfl rfl rfl (by decide) ?_
  clear st a; intro a w b1 st
  refine x_run (v := .iface 80 (.pointer (some ⟨b1, 0, none⟩))) st (r_mkI st rfl rfl mi80) rfl rfl (by decide) ?_
  clear st a; intro a st
  refine xseg 1 st rfl ?_
  clear st a; intro a st
  refine x_nil ?_
  refine x_wpret ?_
  exact x_retp st [.iface 80 (.pointer (some ⟨b1, 0, none⟩))] rfl ⟨rfl, trivial⟩ rfl (⟨_, rfl, st.at 0 rfl, (st.own _ (List.mem_of_getElem? (i := 0) rfl)).resolve_left (by simp)⟩)

set_option maxRecDepth 20000 in
set_option maxHeartbeats 1000000 in
theorem bad_circle  (n : Int) (w0 : World) :
    Fn Tryd.prog 14 [.int .i64 n] w0 [] (fun v w' => ∃ b, v = .iface 80 (.pointer (some ⟨b, 0, none⟩)) ∧ w'.heap[b]? = some (errObj ⟨#[99, 105, 114, 99, 108, 101]⟩ n) ∧ w0.heap.size ≤ b) := by
  refine x_enter' (n := 6) Tryd.func14 rfl rfl (Nat.le_of_ble_eq_true rfl) fun a w st => ?_
  refine x_seq ?_
  refine x_region ?_
  refine xseg 1 st rfl ?_
  clear st a; intro a st
  refine x_nil ?_
  refine x_seq ?_
  refine x_region ?_
  refine xseg 1 st rfl ?_
  clear st a; intro a st
  refine x_run (v := .iface 44 (.int .i64 n)) st (r_mkI st rfl rfl mi44) rfl rfl (by decide) ?_
  clear st a; intro a st
  refine x_call st rfl rfl ent26 rfl rfl (by decide) ((Wrap_ok ({data := #[99, 105, 114, 99, 108, 101]}) n _)) ?_
  intro a1 w1 v1 hk1 hv hn st1; obtain ⟨b1, rfl, hbx, hlx⟩ := hv
  replace st1 := st1.add hbx (hn b1 hlx)
  clear hn hk1 hbx hlx st a w; revert st1; revert a1; revert w1; intro w a st
  refine xseg 1 st rfl ?_
  clear st a; intro a st
  refine x_nil ?_
  refine x_wpret ?_
  exact x_retp st [.iface 80 (.pointer (some ⟨b1, 0, none⟩))] rfl ⟨rfl, trivial⟩ rfl (⟨_, rfl, st.at 0 rfl, (st.own _ (List.mem_of_getElem? (i := 0) rfl)).resolve_left (by simp)⟩)

set_option maxRecDepth 20000 in
set_option maxHeartbeats 1000000 in
theorem bad_buffer  (n : Int) (w0 : World) :
    Fn Tryd.prog 34 [.int .i64 n] w0 [] (fun v w' => ∃ b, v = .iface 80 (.pointer (some ⟨b, 0, none⟩)) ∧ w'.heap[b]? = some (errObj ⟨#[98, 117, 102, 102, 101, 114]⟩ n) ∧ w0.heap.size ≤ b) := by
  refine x_enter' (n := 6) Tryd.func34 rfl rfl (Nat.le_of_ble_eq_true rfl) fun a w st => ?_
  refine x_seq ?_
  refine x_region ?_
  refine xseg 1 st rfl ?_
  clear st a; intro a st
  refine x_nil ?_
  refine x_seq ?_
  refine x_region ?_
  refine xseg 1 st rfl ?_
  clear st a; intro a st
  refine x_run (v := .iface 44 (.int .i64 n)) st (r_mkI st rfl rfl mi44) rfl rfl (by decide) ?_
  clear st a; intro a st
  refine x_call st rfl rfl ent26 rfl rfl (by decide) ((Wrap_ok ({data := #[98, 117, 102, 102, 101, 114]}) n _)) ?_
  intro a1 w1 v1 hk1 hv hn st1; obtain ⟨b1, rfl, hbx, hlx⟩ := hv
  replace st1 := st1.add hbx (hn b1 hlx)
  clear hn hk1 hbx hlx st a w; revert st1; revert a1; revert w1; intro w a st
  refine xseg 1 st rfl ?_
  clear st a; intro a st
  refine x_nil ?_
  refine x_wpret ?_
  exact x_retp st [.iface 80 (.pointer (some ⟨b1, 0, none⟩))] rfl ⟨rfl, trivial⟩ rfl (⟨_, rfl, st.at 0 rfl, (st.own _ (List.mem_of_getElem? (i := 0) rfl)).resolve_left (by simp)⟩)

end Go.Proofs.YtnkbhmonceiocaaDoor
