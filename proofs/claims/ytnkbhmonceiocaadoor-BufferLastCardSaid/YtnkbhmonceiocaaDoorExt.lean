/-
  Rules for what the model does in one step of its own and for calls by a method's name. No program text stands in it.
-/
import Derived.Test.YtnkbhmonceiocaaDoorInts
namespace Go.Proofs.YtnkbhmonceiocaaDoor
open Go Go.RowKit
section rules
variable {P : Program} {w0 w1 : World} {D B : List Nat} {n : Nat} {F : Fr} {H : Hp} {a : Act} {w : World}
variable {Q : Exit → Act → World → Prop} {ops : Array Oper} {rest : List Oper} {o : Oper}
/-- What the model does in one step, with a new block. -/
theorem x_extA (st : St w0 D n F H a w) {f : FuncId} {xs : List Operand} {tys : Array TypeId} {args : List Value} {V : Nat → Value} {ob : Obj} {d : Nat} (ho : o.op = .call { callee := .value (.func f), args := xs.toArray, argTypes := tys }) (ha : evAll F xs = some args)
    (hr : ∀ w, (callFunc f args.toArray).run P w = .ok (.value (V w.heap.size)) (w.alloc ob)) (hg : o.guard = none) (hd : o.dst = some d) (hn : d < n)
    (h : ∀ a w b, St w0 D n ((d, V b) :: F) ((b, ob) :: H) a w → wpList P ops Q rest a w) : wpList P ops Q (o :: rest) a w := by
  refine x_val hg (v := V w.heap.size) (w' := w.alloc ob) ?_ (by rw [hd]; exact h _ _ _ ((st.push _).put _ hn))
  unfold execOp
  simp only [ho, resolve, Deferred.ofValue, Act.eval, Sem.run_bind, Sem.run_pure, Result.andThen_ok, List.map_toArray, st.evAll ha, invoke, Array.append_empty, Array.empty_append, hr]
theorem extract1 (r : Value) (l : List Value) : (#[r] ++ l.toArray).extract 1 (#[r] ++ l.toArray).size = l.toArray := by
  apply Array.ext'
  simp
/-- A method called by its name, done in one step. -/
theorem r_invoke (st : St w0 D n F H a w) {x : Operand} {name : String} {xs : List Operand} {tys : Array TypeId} {r v : Value} {args : List Value} (ho : o.op = .call { callee := .invoke x name, args := xs.toArray, argTypes := tys }) (hx : evF F x = some r) (ha : evAll F xs = some args)
    {w' : World} (hm : (callMethod r name args.toArray).run P w' = .ok (.value v) w') : (execOp a.eval o).run P w' = .ok (.value v) w' := by
  unfold execOp
  simp only [ho, resolve, Sem.run_bind, Sem.run_pure, Result.andThen_ok, List.map_toArray, st.evAll ha, st.ev hx, invoke]
  have e : (#[r] ++ args.toArray)[0]? = some r := by simp
  simp only [e, extract1, hm]
/-- .. that is entered. -/
theorem x_callI (st : St w0 D n F H a w) {x : Operand} {name : String} {xs : List Operand} {tys : Array TypeId} {r : Value} {args args' : List Value} {f : FuncId} {Post : Value → World → Prop} {d : Nat}
    (ho : o.op = .call { callee := .invoke x name, args := xs.toArray, argTypes := tys }) (hx : evF F x = some r) (ha : evAll F xs = some args)
    (hm : ∀ w, (callMethod r name args.toArray).run P w = .ok (.enter f args'.toArray) w) (hg : o.guard = none) (hd : o.dst = some d) (hn : d < n)
    (hf : Fn P f args' w [] Post)
    (h : ∀ a w' v, Keeps [] w w' → Post v w' → (∀ b, w.heap.size ≤ b → b ∉ H.map Prod.fst ∧ w0.heap.size ≤ b) → St w0 D n ((d, v) :: F) H a w' → wpList P ops Q rest a w') : wpList P ops Q (o :: rest) a w := by
  unfold wpList
  rw [if_pos (by simp [Region.wanted, hg])]
  refine .inl ?_
  unfold Oper.wp
  have hrun : (execOp a.eval o).run P w = .ok (.enter f args'.toArray) w := by
    unfold execOp
    simp only [ho, resolve, Sem.run_bind, Sem.run_pure, Result.andThen_ok, List.map_toArray, st.evAll ha, st.ev hx, invoke]
    have e : (#[r] ++ args.toArray)[0]? = some r := by simp
    simp only [e, extract1, hm]
  rw [hrun]
  refine Calls.mono hf fun e w' he => ?_
  cases e with
  | returned v =>
    obtain ⟨hk, hp⟩ := he
    show wpList P ops Q rest (a.put o.dst v) w'
    rw [hd]
    refine h _ w' v hk hp (fun b hb => ⟨st.fresh hb, Nat.le_trans st.keeps.size hb⟩) (St.put ⟨st.size, st.dfr, st.fr, fun x hx => hk.get (st.hp x hx) (by simp), st.own, st.nd, st.keeps.trans' hk⟩ v hn)
  | panicked c => exact he.elim
  | outgrown => exact he.elim
theorem r_tassert (st : St w0 D n F H a w) {x : Operand} {xt t : TypeId} {ok : Bool} {u v : Value} (ho : o.op = .typeAssert x xt t ok) (hx : evF F x = some u) {w' : World} (hv : (Instr.typeAssert u xt t ok).run P w' = .ok v w') : (execOp a.eval o).run P w' = .ok (.value v) w' := by
  unfold execOp; simp only [ho, st.ev hx, Sem.run_bind, Sem.run_pure, Result.andThen_ok, hv]
/-- A store that the model does in a call. -/
theorem x_extS (st : St w0 D n F H a w) (i : Nat) {f : FuncId} {xs : List Operand} {tys : Array TypeId} {args : List Value} {v : Value} {b : Nat} {ob o' : Obj} {d : Nat} (ho : o.op = .call { callee := .value (.func f), args := xs.toArray, argTypes := tys }) (ha : evAll F xs = some args)
    (hH : H[i]? = some (b, ob)) (hr : (callFunc f args.toArray).run P w = .ok (.value v) (World.putObj w b o')) (hg : o.guard = none) (hd : o.dst = some d) (hn : d < n)
    (h : ∀ a w, St w0 D n ((d, v) :: F) (H.set i (b, o')) a w → wpList P ops Q rest a w) : wpList P ops Q (o :: rest) a w := by
  refine x_val hg (v := v) (w' := World.putObj w b o') ?_ (by rw [hd]; exact h _ _ ((st.putObj i hH o').put _ hn))
  unfold execOp
  simp only [ho, resolve, Deferred.ofValue, Act.eval, Sem.run_bind, Sem.run_pure, Result.andThen_ok, List.map_toArray, st.evAll ha, invoke, Array.append_empty, Array.empty_append, hr]
theorem r_nilCheck (st : St w0 D n F H a w) {x : Operand} {ad : Addr} (ho : o.op = .nilCheck x) (hx : evF F x = some (.pointer (some ad))) {w' : World} : (execOp a.eval o).run P w' = .ok (.value (.pointer (some ad))) w' := by
  unfold execOp; simp only [ho, st.ev hx, Sem.run_bind, Sem.run_pure, Result.andThen_ok]
theorem r_eqPtrNil (st : St w0 D n F H a w) {t ty e : TypeId} {x : Operand} {v : Value} {neq b : Bool} (ho : o.op = .binOp (if neq then .neq else .eql) t x (.const (.pointer none)) ty) (hx : evF F x = some v) (hv : (v = .pointer none ∧ b = true) ∨ (∃ ad, v = .pointer (some ad)) ∧ b = false)
    (hu : P.underlying t = some (.pointer e)) {w' : World} : (execOp a.eval o).run P w' = .ok (.value (.bool (if neq then !b else b))) w' := by
  have he : (Op.equal t v (.pointer none)).run P w' = .ok b w' := by
    unfold Op.equal Op.maxDepth Op.equalIn
    rcases hv with ⟨rfl, rfl⟩ | ⟨⟨ad, rfl⟩, rfl⟩ <;> simp [Sem.run_bind, run_underlying hu w']
  have hgd : ∀ op, (eqGuard op t x (.const (.pointer none)) v (.pointer none)).run P w' = .ok () w' := fun op => by
    unfold eqGuard
    rcases hv with ⟨rfl, rfl⟩ | ⟨⟨ad, rfl⟩, rfl⟩ <;> cases op <;> simp
  have hy : a.eval (.const (.pointer none)) = .pointer none := rfl
  unfold execOp
  cases neq with
  | false =>
    have hb : (binOp .eql t v (.pointer none)).run P w' = .ok (.bool b) w' := by
      have : binOp .eql t v (.pointer none) = (do pure (Value.bool (← Op.equal t v (.pointer none))) : Sem Value) := by
        rcases hv with ⟨rfl, _⟩ | ⟨⟨ad, rfl⟩, _⟩ <;> rfl
      rw [this]
      simp only [Sem.run_bind, he, Result.andThen_ok, Sem.run_pure]
    simp only [ho, st.ev hx, hy, Sem.run_bind, Sem.run_pure, Result.andThen_ok, Bool.false_eq_true, if_false, hgd, hb]
  | true =>
    have hb : (binOp .neq t v (.pointer none)).run P w' = .ok (.bool (!b)) w' := by
      have : binOp .neq t v (.pointer none) = (do pure (Value.bool (!(← Op.equal t v (.pointer none)))) : Sem Value) := by
        rcases hv with ⟨rfl, _⟩ | ⟨⟨ad, rfl⟩, _⟩ <;> rfl
      rw [this]
      simp only [Sem.run_bind, he, Result.andThen_ok, Sem.run_pure]
    simp only [ho, st.ev hx, hy, Sem.run_bind, Sem.run_pure, Result.andThen_ok, if_true, hgd, hb]
theorem r_eqStr (st : St w0 D n F H a w) {t ty : TypeId} {x y : Operand} {u v : ByteArray} {neq : Bool} (ho : o.op = .binOp (if neq then .neq else .eql) t x y ty) (hx : evF F x = some (.string u)) (hy : evF F y = some (.string v)) {w' : World} :
    (execOp a.eval o).run P w' = .ok (.value (.bool (if neq then !(u.toList == v.toList) else u.toList == v.toList))) w' := by
  have hgd : ∀ op, (eqGuard op t x y (.string u) (.string v)).run P w' = .ok () w' := fun op => by
    unfold eqGuard
    cases op <;> simp
  unfold execOp
  cases neq with
  | false =>
    have hb : (binOp .eql t (.string u) (.string v)).run P w' = .ok (.bool (u.toList == v.toList)) w' := by
      rfl
    simp only [ho, st.ev hx, st.ev hy, Sem.run_bind, Sem.run_pure, Result.andThen_ok, Bool.false_eq_true, if_false, hgd, hb]
  | true =>
    have hb : (binOp .neq t (.string u) (.string v)).run P w' = .ok (.bool (!(u.toList == v.toList))) w' := by
      rfl
    simp only [ho, st.ev hx, st.ev hy, Sem.run_bind, Sem.run_pure, Result.andThen_ok, if_true, hgd, hb]
end rules
end Go.Proofs.YtnkbhmonceiocaaDoor
