/-
  '==' of two points and of two ranges, at this translation's types.
-/
import Derived.Test.YtnkbhmonceiocaaDoorSeenP
import Derived.Test.YtnkbhmonceiocaaDoorProg
namespace Go.Proofs.YtnkbhmonceiocaaDoor
open Go Go.RowKit
theorem eqIn_i64 {P : Program} {d : Nat} {t : TypeId} {k : IntKind} {x y : Int} (hu : P.underlying t = some (.int k)) (w : World) : (Op.equalIn (d + 1) t (.int .i64 x) (.int .i64 y)).run P w = .ok (x == y) w := by
  unfold Op.equalIn
  simp [Sem.run_bind, run_underlying hu w]
theorem part_pt0 (x y : Int) (w : World) : (part 2 #[.int .i64 x, .int .i64 y] 0).run Tryd.prog w = .ok (.int .i64 x) w := by kernel_rfl
theorem part_pt1 (x y : Int) (w : World) : (part 2 #[.int .i64 x, .int .i64 y] 1).run Tryd.prog w = .ok (.int .i64 y) w := by kernel_rfl
theorem part_sn0 (x y r : Int) (w : World) : (part 25 #[.int .i64 x, .int .i64 y, .int .i64 r] 0).run Tryd.prog w = .ok (.agg #[.int .i64 x, .int .i64 y]) w := by kernel_rfl
theorem part_sn1 (x y r : Int) (w : World) : (part 2 #[.int .i64 x, .int .i64 y, .int .i64 r] 2).run Tryd.prog w = .ok (.int .i64 r) w := by kernel_rfl
theorem eqIn_pt (d : Nat) (x y u v : Int) (w : World) : (Op.equalIn (d + 2) 25 (.agg #[.int .i64 x, .int .i64 y]) (.agg #[.int .i64 u, .int .i64 v])).run Tryd.prog w = .ok (x == u && y == v) w := by
  unfold Op.equalIn
  simp only [Sem.run_bind, run_underlying Tryd.underlying25 w, Result.andThen_ok]
  rw [← Array.forIn_toList]
  simp only [List.forIn_cons, List.forIn_nil, Sem.run_bind, part_pt0, part_pt1, Result.andThen_ok, eqIn_i64 Tryd.underlying2]
  cases h1 : (x == u) <;> cases h2 : (y == v) <;> simp [h1, h2, part_pt0, part_pt1, eqIn_i64 Tryd.underlying2]
theorem eqIn_sn (d : Nat) (x y r u v q : Int) (w : World) : (Op.equalIn (d + 3) 36 (.agg #[.int .i64 x, .int .i64 y, .int .i64 r]) (.agg #[.int .i64 u, .int .i64 v, .int .i64 q])).run Tryd.prog w = .ok ((x == u && y == v) && r == q) w := by
  unfold Op.equalIn
  simp only [Sem.run_bind, run_underlying Tryd.underlying36 w, Result.andThen_ok]
  rw [← Array.forIn_toList]
  simp only [List.forIn_cons, List.forIn_nil, Sem.run_bind, part_sn0, part_sn1, Result.andThen_ok, eqIn_i64 Tryd.underlying2, eqIn_pt]
  cases h1 : (x == u && y == v) <;> cases h2 : (r == q) <;> simp [h1, h2, part_sn0, part_sn1, eqIn_i64 Tryd.underlying2, eqIn_pt]
theorem guard_pt : Tryd.prog.eqGuardType Tryd.prog.depth 25 = false := by kernel_rfl
theorem guard_sn : Tryd.prog.eqGuardType Tryd.prog.depth 36 = false := by kernel_rfl
theorem bin_pt (x y u v : Int) (w : World) : (binOp .eql 25 (.agg #[.int .i64 x, .int .i64 y]) (.agg #[.int .i64 u, .int .i64 v])).run Tryd.prog w = .ok (.bool (x == u && y == v)) w := by
  show (do pure (Value.bool (← Op.equal 25 (.agg #[.int .i64 x, .int .i64 y]) (.agg #[.int .i64 u, .int .i64 v]))) : Sem Value).run Tryd.prog w = _
  unfold Op.equal Op.maxDepth
  simp only [Sem.run_bind, eqIn_pt 9998, Result.andThen_ok, Sem.run_pure]
theorem bin_ptN (x y u v : Int) (w : World) : (binOp .neq 25 (.agg #[.int .i64 x, .int .i64 y]) (.agg #[.int .i64 u, .int .i64 v])).run Tryd.prog w = .ok (.bool (!(x == u && y == v))) w := by
  show (do pure (Value.bool (!(← Op.equal 25 (.agg #[.int .i64 x, .int .i64 y]) (.agg #[.int .i64 u, .int .i64 v])))) : Sem Value).run Tryd.prog w = _
  unfold Op.equal Op.maxDepth
  simp only [Sem.run_bind, eqIn_pt 9998, Result.andThen_ok, Sem.run_pure]
theorem bin_snN (x y r u v q : Int) (w : World) : (binOp .neq 36 (.agg #[.int .i64 x, .int .i64 y, .int .i64 r]) (.agg #[.int .i64 u, .int .i64 v, .int .i64 q])).run Tryd.prog w = .ok (.bool (!((x == u && y == v) && r == q))) w := by
  show (do pure (Value.bool (!(← Op.equal 36 (.agg #[.int .i64 x, .int .i64 y, .int .i64 r]) (.agg #[.int .i64 u, .int .i64 v, .int .i64 q])))) : Sem Value).run Tryd.prog w = _
  unfold Op.equal Op.maxDepth
  simp only [Sem.run_bind, eqIn_sn 9997, Result.andThen_ok, Sem.run_pure]
variable {w0 : World} {D : List Nat} {n : Nat} {F : Fr} {H : Hp} {a : Act} {w : World} {o : Oper}
theorem r_neqAgg {P : Program} (st : St w0 D n F H a w) {t ty : TypeId} {x y : Operand} {C E : Array Value} {b : Bool} (ho : o.op = .binOp .neq t x y ty) (hx : evF F x = some (.agg C)) (hy : evF F y = some (.agg E)) (hq : P.eqGuardType P.depth t = false) {w' : World}
    (hb : (binOp .neq t (.agg C) (.agg E)).run P w' = .ok (.bool b) w') : (execOp a.eval o).run P w' = .ok (.value (.bool b)) w' := by
  have hgd : (eqGuard .neq t x y (.agg C) (.agg E)).run P w' = .ok () w' := by
    unfold eqGuard
    simp [hq]
  unfold execOp
  simp only [ho, st.ev hx, st.ev hy, Sem.run_bind, Sem.run_pure, Result.andThen_ok, hgd, hb]
/-! '==' of two errors. -/
theorem r_eqIfc {P : Program} (st : St w0 D n F H a w) {t ty s s' : TypeId} {x y : Operand} {u v : Value} {b : Bool} (ho : o.op = .binOp .eql t x y ty) (hx : evF F x = some (.iface s u)) (hy : evF F y = some (.iface s' v)) {w' : World}
    (hb : (binOp .eql t (.iface s u) (.iface s' v)).run P w' = .ok (.bool b) w') : (execOp a.eval o).run P w' = .ok (.value (.bool b)) w' := by
  have hgd : (eqGuard .eql t x y (.iface s u) (.iface s' v)).run P w' = .ok () w' := by
    unfold eqGuard
    simp
  unfold execOp
  simp only [ho, st.ev hx, st.ev hy, Sem.run_bind, Sem.run_pure, Result.andThen_ok, hgd, hb]
theorem bin_fe (b : Addr) (m : Int) (w : World) : (binOp .eql 27 (.iface 80 (.pointer (some b))) (.iface 44 (.int .i64 m))).run Tryd.prog w = .ok (.bool false) w := by kernel_rfl
theorem bin_ee (n m : Int) (w : World) : (binOp .eql 27 (.iface 44 (.int .i64 n)) (.iface 44 (.int .i64 m))).run Tryd.prog w = .ok (.bool (n == m)) w := by kernel_rfl
end Go.Proofs.YtnkbhmonceiocaaDoor
