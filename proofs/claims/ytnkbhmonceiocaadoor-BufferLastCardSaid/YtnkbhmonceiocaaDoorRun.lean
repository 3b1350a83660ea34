/-
  Runs of some operations on numbers and rows of numbers. No program text stands in it.
-/
import Derived.Test.YtnkbhmonceiocaaDoorNum
namespace Go.Proofs.YtnkbhmonceiocaaDoor
open Go Go.RowKit
variable {P : Program} {w0 w : World} {D : List Nat} {n : Nat} {F : Fr} {H : Hp} {a : Act} {o : Oper}

theorem isAgg_int {t : TypeId} {k : IntKind} (hu : P.underlying t = some (.int k)) (w : World) : (isAgg t).run P w = .ok false w := by
  unfold isAgg
  rw [Sem.run_bind, run_underlying hu w]
  rfl
theorem part_AF {t : TypeId} {k : IntKind} {m i : Nat} {g : Nat → Nat} (hu : P.underlying t = some (.int k)) (hi : i < m) (w : World) : (part t (AF m g) i).run P w = .ok (.int .u64 (g i : Nat)) w := by
  simp only [part, Sem.run_bind, isAgg_int hu w, Result.andThen_ok, AF_get hi]
  rfl
/-- arr[i] of an array that is a value. -/
theorem run_indexV {t e : TypeId} {m i : Nat} {g : Nat → Nat} {kd k : IntKind} (hu : P.underlying t = some (.array m e)) (he : P.underlying e = some (.int k)) (hs : (P.info? e).map (·.size) = some 1) (hi : i < m) (w : World) :
    (Instr.index t (.agg (AF m g)) (.int kd (i : Nat))).run P w = .ok (.int .u64 (g i : Nat)) w := by
  have h1 : (0 : Int) ≤ (i : Int) ∧ (i : Int) < (m : Int) := by omega
  simp only [Instr.index, asIntOf, Sem.run_bind, Sem.run_pure, Result.andThen_ok, run_underlying hu w, h1, and_self, if_true, run_sizeOf hs w, Int.toNat_natCast, Nat.mul_one, part_AF he hi w]
theorem r_indexV (st : St w0 D n F H a w) {t : TypeId} {x j : Operand} {xv iv v : Value} (ho : o.op = .index t x j) (hx : evF F x = some xv) (hi : evF F j = some iv) {w' : World} (hv : (Instr.index t xv iv).run P w' = .ok v w') :
    (execOp a.eval o).run P w' = .ok (.value v) w' := by
  unfold execOp; simp only [ho, st.ev hx, st.ev hi, Sem.run_bind, Sem.run_pure, Result.andThen_ok, hv]
/-- ^x of 64 bits. -/
theorem r_xor (st : St w0 D n F H a w) {t : TypeId} {x : Operand} {m : Nat} (ho : o.op = .unOp .xor t x) (hx : evF F x = some (.int .u64 (m : Nat))) (hm : m < BB) {w' : World} :
    (execOp a.eval o).run P w' = .ok (.value (.int .u64 ((BB - 1 - m : Nat) : Int))) w' := by
  unfold execOp
  simp only [ho, st.ev hx, Op.unary, Op.intBits, Sem.run_bind, Sem.run_pure, Result.andThen_ok]
  have e : ((BitVec.ofInt IntKind.u64.bits (if IntKind.u64.signed then -1 else IntKind.u64.max) ^^^ BitVec.ofInt IntKind.u64.bits (m : Int)).toNat : Nat) = BB - 1 - m := by
    show (BitVec.ofInt 64 18446744073709551615 ^^^ BitVec.ofInt 64 (m : Int)).toNat = BB - 1 - m
    have h1 : BitVec.ofInt 64 18446744073709551615 = BitVec.allOnes 64 := by decide
    rw [h1, BitVec.allOnes_xor, BitVec.toNat_not, BitVec.ofInt_natCast, BitVec.toNat_ofNat, Nat.mod_eq_of_lt hm]
  rw [e, IntWalk.u64_in _ (by have : BB - 1 - m < BB := by (show 18446744073709551616 - 1 - m < 18446744073709551616; omega)
                              constructor
                              · omega
                              · show ((18446744073709551616 - 1 - m : Nat) : Int) ≤ 18446744073709551615; omega)]

/-! ### '==' of two rows -/
def eqRow (m : Nat) (g h : Nat → Nat) : Bool := (List.range m).all fun i => g i == h i
theorem eqRow_iff (m : Nat) (g h : Nat → Nat) : eqRow m g h = true ↔ ∀ i, i < m → g i = h i := by simp [eqRow]
theorem equalIn_int {d : Nat} {t : TypeId} {k : IntKind} {x y : Int} (hu : P.underlying t = some (.int k)) (w : World) : (Op.equalIn (d + 1) t (.int .u64 x) (.int .u64 y)).run P w = .ok (x == y) w := by
  unfold Op.equalIn
  simp [Sem.run_bind, run_underlying hu w]
theorem run_forEq {e : TypeId} {k : IntKind} {m d : Nat} {g h : Nat → Nat} (he : P.underlying e = some (.int k)) (w : World) : ∀ (l : List Nat), (∀ i, i ∈ l → i < m) →
    (forIn (m := Sem) l ((none, ()) : Option Bool × Unit) fun i _ => do
      if !(← Op.equalIn (d + 1) e (← part e (AF m g) (i * 1)) (← part e (AF m h) (i * 1))) then pure (ForInStep.done (some false, ()))
      else pure (ForInStep.yield (none, ()))).run P w = .ok (if l.all (fun i => g i == h i) then (none, ()) else (some false, ())) w
  | [], _ => rfl
  | i :: l, hl => by
    have hi := hl i List.mem_cons_self
    have ih := run_forEq (g := g) (h := h) (d := d) he w l fun j hj => hl j (List.mem_cons_of_mem _ hj)
    rw [List.forIn_cons]
    simp only [Sem.run_bind, Nat.mul_one, part_AF he hi w, Result.andThen_ok, equalIn_int he w]
    have e1 : (((g i : Nat) : Int) == ((h i : Nat) : Int)) = (g i == h i) := by
      rw [Bool.eq_iff_iff]; simp; omega
    rw [e1]
    by_cases hg : (g i == h i) = true
    · simp only [hg, Bool.not_true, Bool.false_eq_true, if_false, Sem.run_pure, Result.andThen_ok, List.all_cons, Bool.true_and]
      simpa only [Nat.mul_one] using ih
    · have hg' : (g i == h i) = false := by simpa using hg
      simp only [hg', Bool.not_false, if_true, Sem.run_pure, Result.andThen_ok, List.all_cons, Bool.false_and, Bool.false_eq_true, if_false]
theorem run_eqRow {t e : TypeId} {k : IntKind} {m : Nat} {g h : Nat → Nat} (hu : P.underlying t = some (.array m e)) (he : P.underlying e = some (.int k)) (hs : (P.info? e).map (·.size) = some 1) (w : World) :
    (Op.equal t (.agg (AF m g)) (.agg (AF m h))).run P w = .ok (eqRow m g h) w := by
  unfold Op.equal Op.maxDepth Op.equalIn
  simp only [Sem.run_bind, run_underlying hu w, Result.andThen_ok, run_sizeOf hs w, Std.Legacy.Range.forIn_eq_forIn_range']
  have hm : ([:m] : Std.Legacy.Range).size = m := by simp [Std.Legacy.Range.size]
  rw [hm, run_forEq (d := 9998) he w (List.range' 0 m) (fun i hi => by simp [List.mem_range'] at hi; omega)]
  rw [show List.range' 0 m = List.range m from (List.range_eq_range').symm]
  unfold eqRow
  by_cases hq : ((List.range m).all fun i => g i == h i) = true
  · rw [hq]; rfl
  · have hq' : ((List.range m).all fun i => g i == h i) = false := by simpa using hq
    rw [hq']; rfl
/-- '==' and '!=' of two rows, where the comparison of the type asks nothing. -/
theorem r_eqRow (st : St w0 D n F H a w) {t e ty : TypeId} {k : IntKind} {m : Nat} {g h : Nat → Nat} {x y : Operand} {neq : Bool} (ho : o.op = .binOp (if neq then .neq else .eql) t x y ty) (hx : evF F x = some (.agg (AF m g))) (hy : evF F y = some (.agg (AF m h)))
    (hu : P.underlying t = some (.array m e)) (he : P.underlying e = some (.int k)) (hs : (P.info? e).map (·.size) = some 1) (hq : P.eqGuardType P.depth t = false) {w' : World} :
    (execOp a.eval o).run P w' = .ok (.value (.bool (if neq then !(eqRow m g h) else eqRow m g h))) w' := by
  have hgd : ∀ op, (eqGuard op t x y (.agg (AF m g)) (.agg (AF m h))).run P w' = .ok () w' := fun op => by
    unfold eqGuard
    cases op <;> simp [hq]
  unfold execOp
  cases neq with
  | false =>
    have hb : (binOp .eql t (.agg (AF m g)) (.agg (AF m h))).run P w' = .ok (.bool (eqRow m g h)) w' := by
      show (do pure (Value.bool (← Op.equal t (.agg (AF m g)) (.agg (AF m h)))) : Sem Value).run P w' = _
      simp only [Sem.run_bind, run_eqRow hu he hs w', Result.andThen_ok, Sem.run_pure]
    simp only [ho, st.ev hx, st.ev hy, Sem.run_bind, Sem.run_pure, Result.andThen_ok, Bool.false_eq_true, if_false, hgd, hb]
  | true =>
    have hb : (binOp .neq t (.agg (AF m g)) (.agg (AF m h))).run P w' = .ok (.bool (!(eqRow m g h))) w' := by
      show (do pure (Value.bool (!(← Op.equal t (.agg (AF m g)) (.agg (AF m h))))) : Sem Value).run P w' = _
      simp only [Sem.run_bind, run_eqRow hu he hs w', Result.andThen_ok, Sem.run_pure]
    simp only [ho, st.ev hx, st.ev hy, Sem.run_bind, Sem.run_pure, Result.andThen_ok, if_true, hgd, hb]
theorem run_equalB {t : TypeId} {x y : Bool} (hu : P.underlying t = some .bool) (w : World) : (Op.equal t (.bool x) (.bool y)).run P w = .ok (x == y) w := by
  unfold Op.equal Op.maxDepth Op.equalIn
  simp [Sem.run_bind, run_underlying hu w]
theorem r_eqBool (st : St w0 D n F H a w) {t ty : TypeId} {x y : Operand} {b c : Bool} (ho : o.op = .binOp .eql t x y ty) (hx : evF F x = some (.bool b)) (hy : evF F y = some (.bool c)) (hu : P.underlying t = some .bool) {w' : World} :
    (execOp a.eval o).run P w' = .ok (.value (.bool (b == c))) w' := by
  have hgd : (eqGuard .eql t x y (.bool b) (.bool c)).run P w' = .ok () w' := by unfold eqGuard; simp
  have hb : (binOp .eql t (.bool b) (.bool c)).run P w' = .ok (.bool (b == c)) w' := by
    show (do pure (Value.bool (← Op.equal t (.bool b) (.bool c))) : Sem Value).run P w' = _
    simp only [Sem.run_bind, run_equalB hu w', Result.andThen_ok, Sem.run_pure]
  unfold execOp
  simp only [ho, st.ev hx, st.ev hy, Sem.run_bind, Sem.run_pure, Result.andThen_ok, hgd, hb]
theorem r_neqBool (st : St w0 D n F H a w) {t ty : TypeId} {x y : Operand} {b c : Bool} (ho : o.op = .binOp .neq t x y ty) (hx : evF F x = some (.bool b)) (hy : evF F y = some (.bool c)) (hu : P.underlying t = some .bool) {w' : World} :
    (execOp a.eval o).run P w' = .ok (.value (.bool (b != c))) w' := by
  have hgd : (eqGuard .neq t x y (.bool b) (.bool c)).run P w' = .ok () w' := by unfold eqGuard; simp
  have hb : (binOp .neq t (.bool b) (.bool c)).run P w' = .ok (.bool (b != c)) w' := by
    show (do pure (Value.bool (!(← Op.equal t (.bool b) (.bool c)))) : Sem Value).run P w' = _
    simp only [Sem.run_bind, run_equalB hu w', Result.andThen_ok, Sem.run_pure]
    rfl
  unfold execOp
  simp only [ho, st.ev hx, st.ev hy, Sem.run_bind, Sem.run_pure, Result.andThen_ok, hgd, hb]
/-- A guarded operation whose guard was itself not wanted. -/
theorem x_skipU {ops : Array Oper} {Q : Exit → Act → World → Prop} {rest : List Oper} (st : St w0 D n F H a w) {j d t : Nat} {b : Bool} (hg : o.guard = some (j, b)) (hj : (ops[j]?).bind (·.dst) = some d) (hb : F.lookup d = some undef)
    (ht : o.dst = some t) (hn : t < n) (h : ∀ a, St w0 D n ((t, undef) :: F) H a w → wpList P ops Q rest a w) : wpList P ops Q (o :: rest) a w := by
  have hy : yielded ops a.tmps j = none := by
    have hd := st.fr d _ hb
    unfold yielded
    cases ho : ops[j]? with
    | none => rfl
    | some o' =>
      rw [ho] at hj
      simp only [Option.bind_some] at hj
      simp [hj, hd, undef]
  unfold wpList
  rw [if_neg (by simp [Region.wanted, hg, hy]), ht]
  exact h _ (st.put _ hn)
/-! ### A row that is built -/
def evParts (F : Fr) : List (Nat × Operand) → Option (List (Nat × Value))
  | [] => some []
  | (i, x) :: r => match evF F x, evParts F r with
    | some v, some vs => some ((i, v) :: vs)
    | _, _ => none
theorem St.evParts (st : St w0 D n F H a w) : ∀ {ps : List (Nat × Operand)} {vs : List (Nat × Value)}, evParts F ps = some vs → ps.map (fun p => (p.1, a.eval p.2)) = vs
  | [], vs, h => by simp [Go.Proofs.YtnkbhmonceiocaaDoor.evParts] at h; subst h; rfl
  | (i, x) :: r, vs, h => by
    unfold Go.Proofs.YtnkbhmonceiocaaDoor.evParts at h
    cases hx : evF F x with
    | none => rw [hx] at h; cases h
    | some v =>
      cases hr : Go.Proofs.YtnkbhmonceiocaaDoor.evParts F r with
      | none => rw [hx, hr] at h; cases h
      | some us =>
        rw [hx, hr] at h
        cases h
        rw [List.map_cons, st.ev hx, st.evParts hr]
theorem r_build (st : St w0 D n F H a w) {t : TypeId} {ps : List (Nat × Operand)} {vs : List (Nat × Value)} {z : Value} (ho : o.op = .build t ps.toArray) (hv : evParts F ps = some vs) {w' : World}
    (hb : (Instr.build t vs.toArray).run P w' = .ok z w') : (execOp a.eval o).run P w' = .ok (.value z) w' := by
  unfold execOp
  have e : ps.toArray.map (fun p => (p.1, a.eval p.2)) = vs.toArray := by rw [List.map_toArray, st.evParts hv]
  simp only [ho, Sem.run_bind, Sem.run_pure]
  rw [show (ps.toArray.map fun (x : Nat × Operand) => match x with | (i, x) => (i, a.eval x)) = vs.toArray from e, hb]
  rfl
/-! ### Bits of u64 -/
theorem run_shlN {t : TypeId} {k' : IntKind} {x m z : Nat} (hm : m ≤ 64) (hz : x * 2 ^ m % 18446744073709551616 = z) (w : World) : (binOp .shl t (.int .u64 (x : Nat)) (.int k' (m : Nat))).run P w = .ok (.int .u64 (z : Nat)) w := by
  subst hz
  refine run_shl (show m ≤ IntKind.u64.bits from hm) ?_ w
  rw [IntKind.wrap_u64]
  have : (x : Int) * 2 ^ m = ((x * 2 ^ m : Nat) : Int) := by simp
  rw [this]; omega
theorem run_shrN {t : TypeId} {k' : IntKind} {x m z : Nat} (hz : x / 2 ^ m = z) (hx : x < 18446744073709551616) (w : World) : (binOp .shr t (.int .u64 (x : Nat)) (.int k' (m : Nat))).run P w = .ok (.int .u64 (z : Nat)) w := by
  subst hz
  have h0 : ¬ ((m : Int) < 0) := by omega
  simp only [binOp, Op.shift, h0, if_false, Int.toNat_natCast, Sem.run_pure]
  rw [Int.fdiv_eq_ediv_of_nonneg _ (by exact_mod_cast Nat.zero_le _)]
  have : (x : Int) / 2 ^ (min m IntKind.u64.bits) = ((x / 2 ^ m : Nat) : Int) := by
    have e : (2 : Int) ^ (min m IntKind.u64.bits) = ((2 ^ (min m IntKind.u64.bits) : Nat) : Int) := by simp
    rw [e, ← Int.natCast_ediv]
    congr 1
    show x / 2 ^ (min m 64) = _
    rcases Nat.le_total m 64 with h | h
    · rw [Nat.min_eq_left h]
    · rw [Nat.min_eq_right h, Nat.div_eq_of_lt (show x < 2 ^ 64 from hx), Nat.div_eq_of_lt (Nat.lt_of_lt_of_le (show x < 2 ^ 64 from hx) (Nat.pow_le_pow_right (by decide) h))]
  rw [this]
theorem run_quoN {t : TypeId} {x y z : Nat} (hy : y ≠ 0) (hx : x < 18446744073709551616) (hz : x / y = z) (w : World) : (binOp .quo t (.int .u64 (x : Nat)) (.int .u64 (y : Nat))).run P w = .ok (.int .u64 (z : Nat)) w := by
  subst hz
  refine run_quo (by omega) ?_ w
  rw [Int.tdiv_eq_ediv_of_nonneg (by omega), ← Int.natCast_ediv]
  have := Nat.div_le_self x y
  generalize x / y = q at *
  rw [IntKind.wrap_u64]; omega
theorem run_remN {t : TypeId} {x y z : Nat} (hy : y ≠ 0) (hz : x % y = z) (w : World) : (binOp .rem t (.int .u64 (x : Nat)) (.int .u64 (y : Nat))).run P w = .ok (.int .u64 (z : Nat)) w := by
  subst hz
  refine run_rem (by omega) ?_ w
  rw [Int.tmod_eq_emod_of_nonneg (by omega), ← Int.natCast_emod]
theorem ofIntN (x : Nat) (hx : x < 18446744073709551616) : (BitVec.ofInt IntKind.u64.bits (x : Int)).toNat = x := by
  show (BitVec.ofInt 64 (x : Int)).toNat = x
  rw [BitVec.ofInt_natCast, BitVec.toNat_ofNat, Nat.mod_eq_of_lt (show x < 2 ^ 64 from hx)]
theorem run_andN {t : TypeId} {x y z : Nat} (hx : x < 18446744073709551616) (hy : y < 18446744073709551616) (hz : x &&& y = z) (w : World) : (binOp .and t (.int .u64 (x : Nat)) (.int .u64 (y : Nat))).run P w = .ok (.int .u64 (z : Nat)) w := by
  subst hz
  have h : x &&& y < 18446744073709551616 := Nat.lt_of_le_of_lt Nat.and_le_left hx
  simp only [binOp, Op.intBits, Sem.run_pure, ne_eq, not_true_eq_false, if_false, BitVec.toNat_and, ofIntN x hx, ofIntN y hy]
  rw [IntWalk.u64_in _ (by omega)]
theorem run_orN {t : TypeId} {x y z : Nat} (hx : x < 18446744073709551616) (hy : y < 18446744073709551616) (hz : x ||| y = z) (w : World) : (binOp .or t (.int .u64 (x : Nat)) (.int .u64 (y : Nat))).run P w = .ok (.int .u64 (z : Nat)) w := by
  subst hz
  have h : x ||| y < 2 ^ 64 := Nat.or_lt_two_pow (show x < 2 ^ 64 from hx) (show y < 2 ^ 64 from hy)
  simp only [binOp, Op.intBits, Sem.run_pure, ne_eq, not_true_eq_false, if_false, BitVec.toNat_or, ofIntN x hx, ofIntN y hy]
  rw [IntWalk.u64_in _ (by omega)]
/-- A slice to an array. -/
theorem r_toArr (st : St w0 D n F H a w) {t e : TypeId} {x : Operand} {ad : Option Addr} {len cap m : Nat} (ho : o.op = .sliceToArrayPointer t x) (hx : evF F x = some (.slice ad len cap)) (hu : P.underlying t = some (.array m e)) (hl : m ≤ len) {w' : World} :
    (execOp a.eval o).run P w' = .ok (.value (.pointer ad)) w' := by
  unfold execOp
  simp only [ho, st.ev hx, Instr.arrayAt, run_underlying hu w', Sem.run_bind, Sem.run_pure, Result.andThen_ok, if_neg (Nat.not_lt.2 hl)]
end Go.Proofs.YtnkbhmonceiocaaDoor
