/-
  What the condition on the listed variable gives a walk; a world that meets the condition; from a contract to what a row asks of memory. (After the kit's worked example ToyasProofs.)
-/
import Derived.Test.YtnkbhmonceiocaaDoorRows
import Derived.Test.YtnkbhmonceiocaaDoorTie
import Derived.Test.YtnkbhmonceiocaaDoorErrs
import Derived.ChangeSame
import Derived.ChangeVars
import Derived.JoinedOf
import Derived.RowKit
import Derived.RowKitTokens
import Derived.LaidLaws
import Derived.LaidHandle
import Derived.Stop.Joined
import Derived.WalkKit
import Derived.ProofKit
import Derived.OpenShut
import Derived.SevenTiedAt
namespace Go.Proofs.YtnkbhmonceiocaaDoor
open Go Go.ChangeShapes Go.WideShapes Go.ChangeAt Go.RowKit
theorem k_own : ownKnob Tryd.prog.godebug = none := by kernel_rfl
theorem k_et : Tryd.prog.globalNamed "errors.errorType" = some 0 := by kernel_rfl
theorem k_rt : (Tryd.prog.cutTypes.find? (·.1 == "internal/reflectlite.rtype")).map (·.2) = some 117 := by kernel_rfl
theorem k_one : ((List.range Tryd.prog.types.size).filter fun t => Tryd.prog.rowNamed t [101, 114, 114, 111, 114]) = [27] := by kernel_rfl
abbrev laidL (H : Type) : List (String × DataW H) := [("errors.errorType", Rows.laid_errors_errorType)]
/-- WHAT THE CONDITION GIVES A WALK: the variable's one cell. -/
theorem glob_of_laid {W : World} (h : laidMetH Tryd.prog [("errors.errorType", Rows.laid_errors_errorType)] W) : Glob W := by
  have h' : laidMet Tryd.prog [] W ∧ handlesMet Tryd.prog [("errors.errorType", Rows.laid_errors_errorType)] W := h
  obtain ⟨name, u, ty, e1, e2, e3, e4, e5⟩ := h'.2 _ (List.mem_singleton.2 rfl)
  have en : name = [101, 114, 114, 111, 114] := (Option.some.inj e1).symm
  subst en
  obtain rfl := Option.some.inj (k_rt.symm.trans e2)
  have hm : ty ∈ (List.range Tryd.prog.types.size).filter fun t => Tryd.prog.rowNamed t [101, 114, 114, 111, 114] := List.mem_filter.2 ⟨List.mem_range.2 e3, e4⟩
  rw [k_one] at hm
  obtain rfl := List.mem_singleton.1 hm
  have hh : typeHandle Tryd.prog 27 = .pointer (some ⟨3, 27, none⟩) := by kernel_rfl
  rw [hh] at e5
  unfold Glob
  simpa using World.var?_cell k_et e5 0
/-- A world that meets the condition: the settled one, the variable's cell laid. -/
noncomputable def laidWorld (os : Os) : World :=
  let w0 := World.holding Tryd.prog os ⟨#[], #[], []⟩
  { w0 with heap := w0.heap.modify 0 fun
      | .cells _ t frozen => .cells #[rty 27] t frozen
      | o => o }
theorem laidWorld_met (os : Os) (args : Array Value) : laidMetH Tryd.prog [("errors.errorType", Rows.laid_errors_errorType)] ((laidWorld os).forCall (fun _ _ => 0) ⟨#[], args, []⟩).memory :=
  laidMetH_of_parts (laidMet_nil _ _) (by kernel_rfl)
/-- Out of a contract that keeps all. -/
theorem of_fn {f : FuncId} {args : List Value} {W : World} {v : Value} (h : Fn Tryd.prog f args W [] (fun u _ => u = v)) : Calls Tryd.prog f args.toArray W fun e W' => e = .returned v ∧ Below W.heap.size W W' :=
  Calls.mono h fun e W' he => by
    cases e with
    | returned u => obtain ⟨hk, rfl⟩ := he; exact ⟨rfl, hk.below⟩
    | panicked c => exact he.elim
    | outgrown => exact he.elim
end Go.Proofs.YtnkbhmonceiocaaDoor
