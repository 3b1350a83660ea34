/-
  More operations: interfaces, lists that are built, minus; values of calls that hold a new block, in regions that draw their order. No program text stands in it.
-/
import Derived.Test.YtnkbhmonceiocaaDoorMake
namespace Go.Proofs.YtnkbhmonceiocaaDoor
open Go Go.RowKit
variable {P : Program} {w0 w1 : World} {D B : List Nat} {n : Nat} {F : Fr} {H : Hp} {a : Act} {w : World}
variable {Q : Exit → Act → World → Prop} {ops : Array Oper} {rest : List Oper} {o : Oper} {l : List Oper} {rs : List RS} {i : Nat} {ts : List Nat} {es : List Early}
theorem r_mkI (st : St w0 D n F H a w) {t : TypeId} {x : Operand} {v : Value} (ho : o.op = .makeInterface t x) (hx : evF F x = some v) (hm : ∀ v w, (Instr.makeInterface t v).run P w = .ok (.iface t v) w) {w' : World} :
    (execOp a.eval o).run P w' = .ok (.value (.iface t v)) w' := by
  unfold execOp; simp only [ho, st.ev hx, Sem.run_bind, Sem.run_pure, Result.andThen_ok, hm]
theorem run_eqNil {t : TypeId} {ms : Array (String × TypeId)} (hu : P.underlying t = some (.interface ms)) (tt : TypeId) (u : Value) (w : World) : (Op.equal t (.iface tt u) .nilIface).run P w = .ok false w := by
  unfold Op.equal Op.maxDepth Op.equalIn
  simp [Sem.run_bind, run_underlying hu w]
theorem run_eqNil0 {t : TypeId} {ms : Array (String × TypeId)} (hu : P.underlying t = some (.interface ms)) (w : World) : (Op.equal t .nilIface .nilIface).run P w = .ok true w := by
  unfold Op.equal Op.maxDepth Op.equalIn
  simp [Sem.run_bind, run_underlying hu w]
/-- x == nil, x != nil of an interface. -/
theorem r_eqNil (st : St w0 D n F H a w) {t ty : TypeId} {x : Operand} {v : Value} {neq b : Bool} (ho : o.op = .binOp (if neq then .neq else .eql) t x (.const .nilIface) ty) (hx : evF F x = some v) (hv : (v = .nilIface ∧ b = true) ∨ (∃ tt u, v = .iface tt u) ∧ b = false)
    (hu : ∃ ms, P.underlying t = some (.interface ms)) {w' : World} : (execOp a.eval o).run P w' = .ok (.value (.bool (if neq then !b else b))) w' := by
  obtain ⟨ms, hu⟩ := hu
  have he : (Op.equal t v .nilIface).run P w' = .ok b w' := by
    rcases hv with ⟨rfl, rfl⟩ | ⟨⟨tt, u, rfl⟩, rfl⟩
    · exact run_eqNil0 hu w'
    · exact run_eqNil hu tt u w'
  have hgd : ∀ op, (eqGuard op t x (.const .nilIface) v .nilIface).run P w' = .ok () w' := fun op => by
    unfold eqGuard
    rcases hv with ⟨rfl, rfl⟩ | ⟨⟨tt, u, rfl⟩, rfl⟩ <;> cases op <;> simp
  have hy : a.eval (.const .nilIface) = .nilIface := rfl
  unfold execOp
  cases neq with
  | false =>
    have hb : (binOp .eql t v .nilIface).run P w' = .ok (.bool b) w' := by
      have : binOp .eql t v .nilIface = (do pure (Value.bool (← Op.equal t v .nilIface)) : Sem Value) := by
        rcases hv with ⟨rfl, _⟩ | ⟨⟨tt, u, rfl⟩, _⟩ <;> rfl
      rw [this]
      simp only [Sem.run_bind, he, Result.andThen_ok, Sem.run_pure]
    simp only [ho, st.ev hx, hy, Sem.run_bind, Sem.run_pure, Result.andThen_ok, Bool.false_eq_true, if_false, hgd, hb]
  | true =>
    have hb : (binOp .neq t v .nilIface).run P w' = .ok (.bool (!b)) w' := by
      have : binOp .neq t v .nilIface = (do pure (Value.bool (!(← Op.equal t v .nilIface))) : Sem Value) := by
        rcases hv with ⟨rfl, _⟩ | ⟨⟨tt, u, rfl⟩, _⟩ <;> rfl
      rw [this]
      simp only [Sem.run_bind, he, Result.andThen_ok, Sem.run_pure]
    simp only [ho, st.ev hx, hy, Sem.run_bind, Sem.run_pure, Result.andThen_ok, if_true, hgd, hb]
theorem r_neg (st : St w0 D n F H a w) {t : TypeId} {x : Operand} {k : IntKind} {m z : Int} (ho : o.op = .unOp .neg t x) (hx : evF F x = some (.int k m)) (hz : k.wrap (0 - m) = z) {w' : World} :
    (execOp a.eval o).run P w' = .ok (.value (.int k z)) w' := by
  subst hz
  unfold execOp; simp only [ho, st.ev hx, Op.unary, Op.intArith, Sem.run_bind, Sem.run_pure, Result.andThen_ok]
theorem x_bslice (st : St w0 D n F H a w) {t e : TypeId} {len : Nat} {ps : List (Nat × Operand)} {vs : List (Nat × Value)} {C : Array Value} {d : Nat} (ho : o.op = .buildSlice t len ps.toArray) (hv : evParts F ps = some vs)
    (hb : ∀ w, (Instr.buildSlice t len vs.toArray).run P w = .ok (.slice (some ⟨w.heap.size, 0, none⟩) len len) (w.alloc (.cells C e (0, 0)))) (hg : o.guard = none) (hd : o.dst = some d) (hn : d < n)
    (h : ∀ a w b, St w0 D n ((d, .slice (some ⟨b, 0, none⟩) len len) :: F) ((b, .cells C e (0, 0)) :: H) a w → wpList P ops Q rest a w) : wpList P ops Q (o :: rest) a w := by
  refine x_val hg (v := .slice (some ⟨w.heap.size, 0, none⟩) len len) (w' := w.alloc (.cells C e (0, 0))) ?_ (by rw [hd]; exact h _ _ _ ((st.push _).put _ hn))
  unfold execOp
  have e : (ps.toArray.map fun (x : Nat × Operand) => match x with | (i, x) => (i, a.eval x)) = vs.toArray := by
    show ps.toArray.map (fun p => (p.1, a.eval p.2)) = vs.toArray
    rw [List.map_toArray, st.evParts hv]
  simp only [ho, Sem.run_bind, Sem.run_pure]
  rw [e, hb]
  rfl
theorem cvu32 {z : Int} (h : 0 ≤ z ∧ z < 4294967296) : IntKind.u32.wrap z = z := by
  show z % 4294967296 = z
  omega
theorem cvu8 {z : Int} (h : 0 ≤ z ∧ z < 256) : IntKind.u8.wrap z = z := by
  show z % 256 = z
  omega
/-- A call, by a contract that tells of the world ahead of it. -/
theorem ob_callW {Fi : Fr} {s : RS} {f : FuncId} {xs : List Operand} {tys : Array TypeId} {args : List Value} {Post : World → Value → World → Prop} (hs : isOff ts es l i = false) (ho : o.op = .call { callee := .value (.func f), args := xs.toArray, argTypes := tys })
    (hen : ∀ args w, (callFunc f args).run P w = .ok (.enter f args) w) (hg : o.guard = none) (hF : FrSub Fi (depFr l rs i ++ baseFr l i F))
    (ha : evAll Fi xs = some args)
    (h : ∀ a w, St w0 D n Fi H a w → Keeps B w1 w → ExDone l rs (fun j => edgeB l i j) a w → Fn P f args w [] (Post w))
    (hp : ∀ w v w', Keeps [] w w' → Post w v w' → s.to.R v w' ∧ ∀ b, b ∈ s.to.blk v → w.heap.size ≤ b ∧ b < w'.heap.size) : Ob1 P w0 w1 D B n H ts es l rs F i o s := by
  have hpu : isPure o = false := by unfold isPure; rw [ho]
  refine ⟨?_⟩
  unfold Ob1core
  rw [hs]
  simp only [Bool.false_eq_true, if_false, hpu]
  intro a w st hk hx
  rw [if_pos (by simp [Region.wanted, hg])]
  have hrun : (execOp a.eval o).run P w = .ok (.enter f args.toArray) w := by
    unfold execOp
    simp only [ho, resolve, Deferred.ofValue, Act.eval, Sem.run_bind, Sem.run_pure, Result.andThen_ok, List.map_toArray, (st.frame hF.look).evAll ha, invoke, Array.append_empty, Array.empty_append, hen]
  unfold Oper.wp
  rw [hrun]
  refine Calls.mono (h a w (st.frame hF.look) hk hx) fun e w' he => ?_
  cases e with
  | returned v => obtain ⟨h1, h2⟩ := he; obtain ⟨h3, h4⟩ := hp w v w' h1 h2; exact ⟨v, rfl, h1, h3, h4⟩
  | panicked c => exact he.elim
  | outgrown => exact he.elim
/-! ### Values that hold a new block -/
def blkOf : Value → List Nat
  | .pointer (some a) => [a.block]
  | .iface _ (.pointer (some a)) => [a.block]
  | .slice (some a) _ _ => [a.block]
  | _ => []
def RSpec.ifc (t : TypeId) (ob : Obj) : RSpec := ⟨fun u w => ∃ b, u = .iface t (.pointer (some ⟨b, 0, none⟩)) ∧ w.heap[b]? = some ob, blkOf, fun _ _ _ _ ⟨b, e, h⟩ hk hb => ⟨b, e, hk.get h (hb b (by subst e; simp [blkOf]))⟩⟩
theorem ifc_spec {t : TypeId} {ob : Obj} (w : World) (v : Value) (w' : World) (_ : Keeps [] w w') (h : ∃ b, v = .iface t (.pointer (some ⟨b, 0, none⟩)) ∧ w'.heap[b]? = some ob ∧ w.heap.size ≤ b) :
    (RS.spec (RSpec.ifc t ob)).to.R v w' ∧ ∀ b, b ∈ (RS.spec (RSpec.ifc t ob)).to.blk v → w.heap.size ≤ b ∧ b < w'.heap.size := by
  obtain ⟨b, rfl, h1, h2⟩ := h
  refine ⟨⟨b, rfl, h1⟩, fun c hc => ?_⟩
  have hc : c ∈ [b] := hc
  rw [List.mem_singleton] at hc
  subst hc
  exact ⟨h2, lt_of_get h1⟩
theorem DrawEnd.ifc (h : DrawEnd w0 H l rs a w) (j : Nat) {d : Nat} {t : TypeId} {ob : Obj} (hr : rs[j]? = some (.spec (.ifc t ob))) (hd : (l[j]?).bind (·.dst) = some d) :
    ∃ b, a.tmps[d]? = some (.iface t (.pointer (some ⟨b, 0, none⟩))) ∧ w.heap[b]? = some ob ∧ b ∉ H.map Prod.fst ∧ w0.heap.size ≤ b := by
  obtain ⟨v, h1, b, e, h2⟩ := h.ex.at j hr rfl hd
  subst e
  exact ⟨b, h1, h2, h.old j _ d _ b hr hd h1 (by simp [RSpec.ifc, blkOf])⟩
end Go.Proofs.YtnkbhmonceiocaaDoor
