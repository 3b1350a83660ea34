/-
  errors.As at an error of the package fault: the model's entries for internal/reflectlite at this translation's types. (After the kit's worked example ToyasAs.)
-/
import Derived.Test.YtnkbhmonceiocaaDoorExt
import Derived.Test.YtnkbhmonceiocaaDoorProg
import Derived.Stop.Asserts
namespace Go.Proofs.YtnkbhmonceiocaaDoor
open Go Go.RowKit Go.Extern.Stop Go.Stop Go.Extern
set_option maxRecDepth 100000
theorem ext_of {P : Program} {f : FuncId} {fn : Func} {e : Array Value → Sem Value} (hf : P.funcs[f]? = some fn) (hname : (fn.name == "runtime.NumGoroutine") = false)
    (hb : fn.body.isNone = true) (hn : Extern.findNext fn = none) (he : Extern.find fn = some e) {args : Array Value} {w w' : World} {v : Value} (h : (e args).run P w = .ok v w') : (callFunc f args).run P w = .ok (.value v) w' := by
  rw [run_callFunc_extern hf hname hb hn he, h]
  rfl
/-! ### This translation: *fault.Fault, api.Errno, *api.Errno, error -/
abbrev hd (t : Nat) : Value := .pointer (some ⟨3, t, none⟩)
abbrev rty (t : Nat) : Value := .iface 117 (.agg #[hd t])
theorem vo_ptr (t : Addr) (w : World) : (callFunc 52 #[.iface 79 (.pointer (some t))]).run Tryd.prog w
    = .ok (.value (.agg #[hd 79, .pointer (some ⟨w.heap.size, 0, none⟩), .int .u64 150])) (w.alloc (.cells #[.pointer (some t)] 79 (0, 0))) := by
  have h : (ReflectliteValue.unpack (.iface 79 (.pointer (some t)))).run Tryd.prog w = .ok (.agg #[hd 79, .pointer (some ⟨w.heap.size, 0, none⟩), .int .u64 150]) (w.alloc (.cells #[.pointer (some t)] 79 (0, 0))) := by kernel_rfl
  exact ext_of (e := (fun args => ReflectliteValue.unpack (args.getD 0 (.tuple #[])))) Tryd.func52 (by kernel_rfl) (by kernel_rfl) (by kernel_rfl) (by kernel_rfl) h
theorem vo_no (n : Int) (w : World) : (callFunc 52 #[.iface 44 (.int .i64 n)]).run Tryd.prog w
    = .ok (.value (.agg #[hd 44, .pointer (some ⟨w.heap.size, 0, none⟩), .int .u64 130])) (w.alloc (.cells #[.int .i64 n] 44 (0, 0))) := by
  have h : (ReflectliteValue.unpack (.iface 44 (.int .i64 n))).run Tryd.prog w = .ok (.agg #[hd 44, .pointer (some ⟨w.heap.size, 0, none⟩), .int .u64 130]) (w.alloc (.cells #[.int .i64 n] 44 (0, 0))) := by kernel_rfl
  exact ext_of (e := (fun args => ReflectliteValue.unpack (args.getD 0 (.tuple #[])))) Tryd.func52 (by kernel_rfl) (by kernel_rfl) (by kernel_rfl) (by kernel_rfl) h
theorem ty_ptr (a : Addr) (w : World) : (callFunc 53 #[.agg #[hd 79, .pointer (some a), .int .u64 150]]).run Tryd.prog w = .ok (.value (rty 79)) w := by
  have h : (ReflectliteValue.methodAny (ReflectliteValue.valueError "reflectlite.Value.Type" 0) (fun t _ _ _ => ReflectliteType.toType t) #[.agg #[hd 79, .pointer (some a), .int .u64 150]]).run Tryd.prog w = .ok (rty 79) w := by kernel_rfl
  exact ext_of (e := (ReflectliteValue.methodAny (ReflectliteValue.valueError "reflectlite.Value.Type" 0) (fun t _ _ _ => ReflectliteType.toType t))) Tryd.func53 (by kernel_rfl) (by kernel_rfl) (by kernel_rfl) (by kernel_rfl) h
theorem callMethod_of {t : TypeId} {v v' : Value} {name : String} {f : FuncId} {args : Array Value} {w : World} {r : Result Next} (hm : (Go.method (Tryd.prog.types.size + Made.depth) t v name).run Tryd.prog w = .ok (f, v') w)
    (hc : (callFunc f (#[v'] ++ args)).run Tryd.prog w = r) : (callMethod (.iface t v) name args).run Tryd.prog w = r := by
  have e : (callMethod (.iface t v) name args) = (do let p ← (do let P ← program; Go.method (P.types.size + Made.depth) t v name); callFunc p.1 (#[p.2] ++ args)) := rfl
  rw [e]
  have h2 : (do let P ← program; Go.method (P.types.size + Made.depth) t v name : Sem (FuncId × Value)).run Tryd.prog w = .ok (f, v') w := hm
  rw [Sem.run_bind, h2]
  exact hc
theorem kind_of (t : Nat) (k : Nat) (w : World) (h : ((ReflectliteType.abiMethod fun t => (fun a : Nat => Value.int IntKind.u8 (a : Int)) <$> Rtype.kind t) #[hd t]).run Tryd.prog w = .ok (.int .u8 k) w) (hm : (Go.method (Tryd.prog.types.size + Made.depth) 117 (.agg #[hd t]) "Kind").run Tryd.prog w = .ok (85, hd t) w) :
    (callMethod (rty t) "Kind" #[]).run Tryd.prog w = .ok (.value (.int .u8 k)) w := by
  refine callMethod_of hm ?_
  exact ext_of (e := (ReflectliteType.abiMethod fun t => do pure (.int .u8 (← Rtype.kind t)))) Tryd.func85 (by kernel_rfl) (by kernel_rfl) (by kernel_rfl) (by kernel_rfl) h
theorem kind_ptr (w : World) : (callMethod (rty 79) "Kind" #[]).run Tryd.prog w = .ok (.value (.int .u8 22)) w := kind_of _ 22 w (by kernel_rfl) (by kernel_rfl)
theorem kind_no (w : World) : (callMethod (rty 44) "Kind" #[]).run Tryd.prog w = .ok (.value (.int .u8 2)) w := kind_of _ 2 w (by kernel_rfl) (by kernel_rfl)
theorem elem_ptr (w : World) : (callMethod (rty 79) "Elem" #[]).run Tryd.prog w = .ok (.value (rty 44)) w := by
  refine callMethod_of (f := 97) (v' := .agg #[hd 79]) (by kernel_rfl) ?_
  have h : (ReflectliteType.method ReflectliteType.elem #[.agg #[hd 79]]).run Tryd.prog w = .ok (rty 44) w := by kernel_rfl
  exact ext_of (e := (ReflectliteType.method ReflectliteType.elem)) Tryd.func97 (by kernel_rfl) (by kernel_rfl) (by kernel_rfl) (by kernel_rfl) h
theorem impl_no (w : World) : (callMethod (rty 44) "Implements" #[rty 27]).run Tryd.prog w = .ok (.value (.bool true)) w := by
  refine callMethod_of (f := 98) (v' := .agg #[hd 44]) (by kernel_rfl) ?_
  have h : (ReflectliteType.relation "Implements" ReflectliteType.implements_ #[.agg #[hd 44], rty 27]).run Tryd.prog w = .ok (.bool true) w := by kernel_rfl
  exact ext_of (e := (ReflectliteType.relation "Implements" ReflectliteType.implements_)) Tryd.func98 (by kernel_rfl) (by kernel_rfl) (by kernel_rfl) (by kernel_rfl) h
theorem to_fault (v : Value) (w : World) : (callFunc 58 #[.iface 80 v]).run Tryd.prog w = .ok (.value (rty 80)) w := by
  have h : (ReflectliteType.typeOf #[.iface 80 v]).run Tryd.prog w = .ok (rty 80) w := by kernel_rfl
  exact ext_of (e := ReflectliteType.typeOf) Tryd.func58 (by kernel_rfl) (by kernel_rfl) (by kernel_rfl) (by kernel_rfl) h
theorem to_no (v : Value) (w : World) : (callFunc 58 #[.iface 44 v]).run Tryd.prog w = .ok (.value (rty 44)) w := by
  have h : (ReflectliteType.typeOf #[.iface 44 v]).run Tryd.prog w = .ok (rty 44) w := by kernel_rfl
  exact ext_of (e := ReflectliteType.typeOf) Tryd.func58 (by kernel_rfl) (by kernel_rfl) (by kernel_rfl) (by kernel_rfl) h
theorem asg_fault (w : World) : (callMethod (rty 80) "AssignableTo" #[rty 44]).run Tryd.prog w = .ok (.value (.bool false)) w := by
  refine callMethod_of (f := 95) (v' := .agg #[hd 80]) (by kernel_rfl) ?_
  have h : (ReflectliteType.relation "AssignableTo" ReflectliteType.assignableTo #[.agg #[hd 80], rty 44]).run Tryd.prog w = .ok (.bool false) w := by kernel_rfl
  exact ext_of (e := (ReflectliteType.relation "AssignableTo" ReflectliteType.assignableTo)) Tryd.func95 (by kernel_rfl) (by kernel_rfl) (by kernel_rfl) (by kernel_rfl) h
theorem asg_no (w : World) : (callMethod (rty 44) "AssignableTo" #[rty 44]).run Tryd.prog w = .ok (.value (.bool true)) w := by
  refine callMethod_of (f := 95) (v' := .agg #[hd 44]) (by kernel_rfl) ?_
  have h : (ReflectliteType.relation "AssignableTo" ReflectliteType.assignableTo #[.agg #[hd 44], rty 44]).run Tryd.prog w = .ok (.bool true) w := by kernel_rfl
  exact ext_of (e := (ReflectliteType.relation "AssignableTo" ReflectliteType.assignableTo)) Tryd.func95 (by kernel_rfl) (by kernel_rfl) (by kernel_rfl) (by kernel_rfl) h
theorem unwrap_in (b : Addr) (w : World) : (callMethod (.iface 80 (.pointer (some b))) "Unwrap" #[]).run Tryd.prog w = .ok (.enter 90 #[.pointer (some b)]) w := by
  refine callMethod_of (f := 90) (v' := .pointer (some b)) (by kernel_rfl) ?_
  exact enters_at Tryd.func90 (by kernel_rfl) rfl _ w
/-! ### The entries that read or write memory -/
theorem rlm (z : Sem Value) (f : TypeId → Addr → Nat → Nat → Sem Value) (v : Value) :
    ReflectliteValue.method z f #[v] = (do match ← ReflectliteValue.parts v with | none => z | some (t, a, fl) => f t a fl (fl % 32)) := rfl
theorem parts_ptr (a : Addr) (w : World) : (ReflectliteValue.parts (.agg #[hd 79, .pointer (some a), .int .u64 150])).run Tryd.prog w = .ok (some (79, a, 150)) w := by kernel_rfl
theorem isnil_run (a p : Addr) (W : World) (ha : W.cell? a = some (.pointer (some p))) :
    (ReflectliteValue.method (ReflectliteValue.valueError "reflectlite.Value.IsNil" 0) ReflectliteValue.isNil #[.agg #[hd 79, .pointer (some a), .int .u64 150]]).run Tryd.prog W = .ok (.bool false) W := by
  rw [rlm]
  simp only [Sem.run_bind, parts_ptr, Result.andThen]
  simp [ReflectliteValue.isNil, loadVar, isAgg, underlying, Tryd.underlying79, ha, Result.andThen]
theorem isnil_ptr (b : Nat) (p : Addr) (W : World) (hb : W.heap[b]? = some (.cells #[.pointer (some p)] 79 (0, 0))) :
    (callFunc 54 #[.agg #[hd 79, .pointer (some ⟨b, 0, none⟩), .int .u64 150]]).run Tryd.prog W = .ok (.value (.bool false)) W := by
  have h := isnil_run ⟨b, 0, none⟩ p W (by simp [World.cell?, hb])
  exact ext_of (e := (ReflectliteValue.method (ReflectliteValue.valueError "reflectlite.Value.IsNil" 0) ReflectliteValue.isNil)) Tryd.func54 (by kernel_rfl) (by kernel_rfl) (by kernel_rfl) (by kernel_rfl) h
theorem elemOf_ptr (w : World) : (Rtype.elem? 79).run Tryd.prog w = .ok (some 44) w := by kernel_rfl
theorem mk_no (p : Addr) (w : World) : (ReflectliteValue.mk 44 p ReflectliteValue.flagAddr).run Tryd.prog w = .ok (.agg #[hd 44, .pointer (some p), .int .u64 386]) w := by kernel_rfl
theorem elemv_run (a p : Addr) (W : World) (ha : W.cell? a = some (.pointer (some p))) :
    (ReflectliteValue.method (ReflectliteValue.valueError "reflectlite.Value.Elem" 0) ReflectliteValue.elem #[.agg #[hd 79, .pointer (some a), .int .u64 150]]).run Tryd.prog W = .ok (.agg #[hd 44, .pointer (some p), .int .u64 386]) W := by
  rw [rlm]
  simp only [Sem.run_bind, parts_ptr, Result.andThen]
  simp [ReflectliteValue.elem, loadVar, isAgg, underlying, Tryd.underlying79, ha, Result.andThen, elemOf_ptr, mk_no]
theorem elemv_ptr (b : Nat) (p : Addr) (W : World) (hb : W.heap[b]? = some (.cells #[.pointer (some p)] 79 (0, 0))) :
    (callFunc 60 #[.agg #[hd 79, .pointer (some ⟨b, 0, none⟩), .int .u64 150]]).run Tryd.prog W = .ok (.value (.agg #[hd 44, .pointer (some p), .int .u64 386])) W := by
  have h := elemv_run ⟨b, 0, none⟩ p W (by simp [World.cell?, hb])
  exact ext_of (e := (ReflectliteValue.method (ReflectliteValue.valueError "reflectlite.Value.Elem" 0) ReflectliteValue.elem)) Tryd.func60 (by kernel_rfl) (by kernel_rfl) (by kernel_rfl) (by kernel_rfl) h
end Go.Proofs.YtnkbhmonceiocaaDoor
