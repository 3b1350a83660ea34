/-
  errors.As at an error of the package fault: the entry that writes the target. (After the kit's worked example ToyasAs.)
-/
import Derived.Test.YtnkbhmonceiocaaDoorAs
namespace Go.Proofs.YtnkbhmonceiocaaDoor
open Go Go.RowKit Go.Extern.Stop Go.Stop Go.Extern
set_option maxRecDepth 100000
theorem rls (v x : Value) : ReflectliteValue.set #[v, x] = (do
    let (some (dst, a, fl), some (src, b, _)) := (← ReflectliteValue.parts v, ← ReflectliteValue.parts x)
      | unsupported (.noEntry "extern/(internal/reflectlite.Value).Set.zeroValue")
    if fl / ReflectliteValue.flagAddr % 2 == 0 then unsupported (.noEntry "extern/(internal/reflectlite.Value).Set.unaddressable")
    let val ← loadVar src b
    if ← Rtype.directlyAssignable dst src then storeVar dst a val
    else if ← Rtype.implements dst src then
      if (← Rtype.kind src) == 20 then
        match val with
        | .nilIface => unsupported (.noEntry "extern/reflectlite: a nil value of one interface type handed on as a value of another")
        | _ => storeVar dst a val
      else storeVar dst a (.iface src val)
    else panicString ("reflectlite.Set: value of type " ++ (← Rtype.spelt src) ++ " is not assignable to type " ++ (← Rtype.spelt dst))
    pure (.tuple #[])) := rfl
theorem parts_noa (a : Addr) (w : World) : (ReflectliteValue.parts (.agg #[hd 44, .pointer (some a), .int .u64 386])).run Tryd.prog w = .ok (some (44, a, 386)) w := by kernel_rfl
theorem parts_no (a : Addr) (w : World) : (ReflectliteValue.parts (.agg #[hd 44, .pointer (some a), .int .u64 130])).run Tryd.prog w = .ok (some (44, a, 130)) w := by kernel_rfl
theorem direct_no (w : World) : (Rtype.directlyAssignable 44 44).run Tryd.prog w = .ok true w := by kernel_rfl
theorem size_no : (Tryd.prog.info? 44).map (·.size) = some 1 := by kernel_rfl
theorem set_no (t b : Nat) (n : Int) (old : Value) (W : World) (hb : W.heap[b]? = some (.cells #[.int .i64 n] 44 (0, 0))) (ht : W.heap[t]? = some (.cells #[old] 44 (0, 0))) :
    (callFunc 61 #[.agg #[hd 44, .pointer (some ⟨t, 0, none⟩), .int .u64 386], .agg #[hd 44, .pointer (some ⟨b, 0, none⟩), .int .u64 130]]).run Tryd.prog W
      = .ok (.value (.tuple #[])) (World.putObj W t (.cells #[.int .i64 n] 44 (0, 0))) := by
  have h : (ReflectliteValue.set #[.agg #[hd 44, .pointer (some ⟨t, 0, none⟩), .int .u64 386], .agg #[hd 44, .pointer (some ⟨b, 0, none⟩), .int .u64 130]]).run Tryd.prog W = .ok (.tuple #[]) (World.putObj W t (.cells #[.int .i64 n] 44 (0, 0))) := by
    rw [rls]
    have hl : (loadVar 44 ⟨b, 0, none⟩).run Tryd.prog W = .ok (.int .i64 n) W := run_load1 hb Tryd.underlying44 rfl rfl
    have hs : (storeVar 44 ⟨t, 0, none⟩ (.int .i64 n)).run Tryd.prog W = .ok () (World.putObj W t (.cells #[.int .i64 n] 44 (0, 0))) := run_store1' ht size_no rfl (by simp) rfl
    simp only [Sem.run_bind, parts_noa, parts_no, Result.andThen_ok]
    have hf : ¬ ((386 / ReflectliteValue.flagAddr % 2 == 0) = true) := by decide
    simp only [hf, Bool.false_eq_true, if_false, hl, direct_no, Sem.run_bind, Result.andThen_ok, if_true, hs, Sem.run_pure]
  exact ext_of (e := ReflectliteValue.set) Tryd.func61 (by kernel_rfl) (by kernel_rfl) (by kernel_rfl) (by kernel_rfl) h
theorem cmp_no (w : World) : (callMethod (rty 44) "Comparable" #[]).run Tryd.prog w = .ok (.value (.bool true)) w := by
  refine callMethod_of (f := 96) (v' := .agg #[hd 44]) (by kernel_rfl) ?_
  have h : (ReflectliteType.method (fun t => do Rtype.noPackHeld "Comparable" t; pure (.bool (← typeInfo t).comparable)) #[.agg #[hd 44]]).run Tryd.prog w = .ok (.bool true) w := by kernel_rfl
  exact ext_of (e := (ReflectliteType.method (fun t => do Rtype.noPackHeld "Comparable" t; pure (.bool (← typeInfo t).comparable)))) Tryd.func96 (by kernel_rfl) (by kernel_rfl) (by kernel_rfl) (by kernel_rfl) h
end Go.Proofs.YtnkbhmonceiocaaDoor
