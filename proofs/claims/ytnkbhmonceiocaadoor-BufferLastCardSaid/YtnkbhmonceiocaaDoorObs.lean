/-
  The operations of a region that draws its order, one lemma for each kind; and the operations' runs by themselves. No program text stands in it.
-/
import Derived.Test.YtnkbhmonceiocaaDoorDraw
namespace Go.Proofs.YtnkbhmonceiocaaDoor
open Go Go.RowKit
variable {P : Program} {w0 w1 : World} {D B : List Nat} {ts : List Nat} {es : List Early} {n : Nat} {F : Fr} {H : Hp} {a : Act} {w : World}
variable {Q : Exit → Act → World → Prop} {ops : Array Oper} {rest : List Oper} {o : Oper} {l : List Oper} {rs : List RS} {i : Nat}

/-! ### Runs -/
theorem r_load (st : St w0 D n F H a w) {t : TypeId} {x : Operand} {ad : Addr} {v : Value} (ho : o.op = .load t x) (ha : evF F x = some (.pointer (some ad))) (hv : (loadVar t ad).run P w = .ok v w) :
    (execOp a.eval o).run P w = .ok (.value v) w := by
  unfold execOp; simp only [ho, st.ev ha, Instr.loadAt, Instr.sureAddr, Sem.run_bind, Sem.run_pure, Result.andThen_ok, hv]
theorem r_index (st : St w0 D n F H a w) {t : TypeId} {x j : Operand} {xv iv v : Value} (ho : o.op = .indexAddr t x j) (hx : evF F x = some xv) (hi : evF F j = some iv) {w' : World} (hv : (Instr.indexAt t xv iv).run P w' = .ok v w') :
    (execOp a.eval o).run P w' = .ok (.value v) w' := by
  unfold execOp; simp only [ho, st.ev hx, st.ev hi, Sem.run_bind, Sem.run_pure, Result.andThen_ok, hv]
theorem r_field (st : St w0 D n F H a w) {s j off b ao : Nat} {x : Operand} (ho : o.op = .fieldAddr s x j) (hx : evF F x = some (.pointer (some ⟨b, ao, none⟩))) (hf : fieldOff P s j = some off) {w' : World} :
    (execOp a.eval o).run P w' = .ok (.value (.pointer (some ⟨b, ao + off, none⟩))) w' := by
  unfold execOp; simp only [ho, st.ev hx, Sem.run_bind, Sem.run_pure, Result.andThen_ok, run_fieldAt hf]
theorem r_fieldV (st : St w0 D n F H a w) {t j : Nat} {x : Operand} {xv v : Value} (ho : o.op = .field t x j) (hx : evF F x = some xv) {w' : World} (hv : (Instr.field t xv j).run P w' = .ok v w') :
    (execOp a.eval o).run P w' = .ok (.value v) w' := by
  unfold execOp; simp only [ho, st.ev hx, Sem.run_bind, Sem.run_pure, Result.andThen_ok, hv]
theorem r_len (st : St w0 D n F H a w) {t e : TypeId} {x : Operand} {ad : Option Addr} {len cap : Nat} (ho : o.op = .call { callee := .builtin .len, args := #[x], argTypes := #[t] })
    (hx : evF F x = some (.slice ad len cap)) (hu : P.underlying t = some (.slice e)) {w' : World} : (execOp a.eval o).run P w' = .ok (.value (.int .i64 (len : Nat))) w' := by
  unfold execOp
  simp only [ho, resolve, Sem.run_bind, Sem.run_pure, Result.andThen_ok, invoke, builtin, Builtin.len_, List.map_toArray, List.map_cons, List.map_nil, st.ev hx]
  simp [run_underlying hu w', goInt]
theorem r_slice (st : St w0 D n F H a w) {t : TypeId} {x : Operand} {lo hi mx : Option Operand} {xv v : Value} {lv hv' mv : Option Value} (ho : o.op = .slice t x lo hi mx) (hx : evF F x = some xv)
    (hlo : lo.bind (evF F) = lv) (hlo' : lv.isSome = lo.isSome) (hhi : hi.bind (evF F) = hv') (hhi' : hv'.isSome = hi.isSome) (hmx : mx = none ∧ mv = none) {w' : World}
    (hv : (Instr.sliceAt t xv lv hv' mv).run P w' = .ok v w') : (execOp a.eval o).run P w' = .ok (.value v) w' := by
  obtain ⟨rfl, rfl⟩ := hmx
  have e1 : ∀ (y : Option Operand) (u : Option Value), y.bind (evF F) = u → u.isSome = y.isSome → y.map a.eval = u := by
    intro y u hy hs
    cases y with
    | none => subst hy; rfl
    | some z =>
      cases u with
      | none => simp at hs
      | some q => simp at hy; simp [st.ev hy]
  unfold execOp; simp only [ho, st.ev hx, e1 _ _ hlo hlo', e1 _ _ hhi hhi', Option.map_none, Sem.run_bind, Sem.run_pure, Result.andThen_ok, hv]
theorem r_conv (st : St w0 D n F H a w) {s t : TypeId} {x : Operand} {k k' : IntKind} {m z : Int} {ds : TypeDesc} (ho : o.op = .convert s t x) (hx : evF F x = some (.int k m))
    (hs : P.underlying s = some ds) (ht : P.underlying t = some (.int k')) (hz : k'.wrap m = z) {w' : World} : (execOp a.eval o).run P w' = .ok (.value (.int k' z)) w' := by
  subst hz
  unfold execOp
  simp only [ho, st.ev hx, convert, run_underlying hs w', run_underlying ht w', Sem.run_bind, Sem.run_pure, Result.andThen_ok, Conv.intToInt]
theorem r_num (st : St w0 D n F H a w) {op : BinOp} {t ty : TypeId} {x y : Operand} {j k : IntKind} {b c : Int} {v : Value} (ho : o.op = .binOp op t x y ty) (hx : evF F x = some (.int j b)) (hy : evF F y = some (.int k c)) {w' : World}
    (hv : (binOp op t (.int j b) (.int k c)).run P w' = .ok v w') : (execOp a.eval o).run P w' = .ok (.value v) w' := by
  unfold execOp; simp only [ho, st.ev hx, st.ev hy, Sem.run_bind, Sem.run_pure, Result.andThen_ok, eqGuard_ints, hv]
theorem pureOp_run' (st : St w0 D n F H a w) {v : Value} (h : pureOp F o.op = some v) (w' : World) : (execOp a.eval o).run P w' = .ok (.value v) w' := by
  have st' : St w' D n F [] a w' := ⟨st.size, st.dfr, st.fr, by simp, by simp, by simp, Keeps.refl _ _⟩
  exact pureOp_run st' h
/-- Any operation that yields a value and leaves the world. -/
theorem x_run (st : St w0 D n F H a w) {v : Value} {d : Nat} (hr : (execOp a.eval o).run P w = .ok (.value v) w) (hg : o.guard = none) (hd : o.dst = some d) (hn : d < n)
    (h : ∀ a, St w0 D n ((d, v) :: F) H a w → wpList P ops Q rest a w) : wpList P ops Q (o :: rest) a w :=
  x_val hg hr (by rw [hd]; exact h _ (st.put _ hn))

/-! ### What is to be shown of an operation of a region that draws its order -/
def FrSub : Fr → Fr → Prop
  | [], _ => True
  | (t, v) :: r, G => G.lookup t = some v ∧ FrSub r G
theorem FrSub.look : ∀ {Fi G : Fr}, FrSub Fi G → ∀ t v, Fi.lookup t = some v → G.lookup t = some v
  | [], _, _, t, v, h => by simp at h
  | (d, u) :: r, G, hs, t, v, h => by
    rw [lookup_cons] at h
    by_cases e : t = d
    · subst e; rw [if_pos rfl] at h; cases h; exact hs.1
    · rw [if_neg e] at h; exact hs.2.look t v h
theorem ob_store {v : Value} (hs : isOff ts es l i = true) : Ob1 P w0 w1 D B n H ts es l rs F i o (.det v) := by refine ⟨?_⟩; unfold Ob1core; rw [if_pos hs]; exact ⟨v, rfl⟩
/-- A pure one, by its run. -/
theorem ob_run {Fi : Fr} {v : Value} (hs : isOff ts es l i = false) (hp : isPure o = true) (hg : o.guard = none) (hF : FrSub Fi (depFr l rs i ++ baseFr l i F))
    (h : ∀ a w, St w0 D n Fi H a w → Keeps B w1 w → ExDone l rs (fun j => edgeB l i j) a w → ∀ w', (execOp a.eval o).run P w' = .ok (.value v) w') : Ob1 P w0 w1 D B n H ts es l rs F i o (.det v) := by
  refine ⟨?_⟩
  unfold Ob1core
  rw [hs]
  simp only [Bool.false_eq_true, if_false, hp, if_true]
  exact fun a w st hk hx => ⟨v, .inl ⟨by simp [Region.wanted, hg], h a w (st.frame hF.look) hk hx⟩, rfl, rfl⟩
/-- A pure one on values that are told outright. -/
theorem ob_p {Fi : Fr} {u v : Value} (hs : isOff ts es l i = false) (hp : isPure o = true) (hg : o.guard = none) (hF : FrSub Fi (depFr l rs i ++ baseFr l i F)) (h : pureOp Fi o.op = some u) (e : u = v) : Ob1 P w0 w1 D B n H ts es l rs F i o (.det v) := by
  subst e
  exact ob_run hs hp hg hF fun a w st _ _ w' => pureOp_run' st h w'
theorem ob_runS {Fi : Fr} {s : RSpec} (hs : isOff ts es l i = false) (hp : isPure o = true) (hg : o.guard = none) (hF : FrSub Fi (depFr l rs i ++ baseFr l i F))
    (h : ∀ a w, St w0 D n Fi H a w → Keeps B w1 w → ExDone l rs (fun j => edgeB l i j) a w → ∃ v, (∀ w', (execOp a.eval o).run P w' = .ok (.value v) w') ∧ s.R v w ∧ s.blk v = []) : Ob1 P w0 w1 D B n H ts es l rs F i o (.spec s) := by
  refine ⟨?_⟩
  unfold Ob1core
  rw [hs]
  simp only [Bool.false_eq_true, if_false, hp, if_true]
  intro a w st hk hx
  obtain ⟨v, h1, h2, h3⟩ := h a w (st.frame hF.look) hk hx
  exact ⟨v, .inl ⟨by simp [Region.wanted, hg], h1⟩, h2, h3⟩
/-- One that looks at the world, and leaves it. -/
theorem ob_w {Fi : Fr} {v : Value} (hs : isOff ts es l i = false) (hp : isPure o = false) (hg : o.guard = none) (hF : FrSub Fi (depFr l rs i ++ baseFr l i F))
    (h : ∀ a w, St w0 D n Fi H a w → Keeps B w1 w → ExDone l rs (fun j => edgeB l i j) a w → (execOp a.eval o).run P w = .ok (.value v) w) : Ob1 P w0 w1 D B n H ts es l rs F i o (.det v) := by
  refine ⟨?_⟩
  unfold Ob1core
  rw [hs]
  simp only [Bool.false_eq_true, if_false, hp]
  intro a w st hk hx
  rw [if_pos (by simp [Region.wanted, hg])]
  unfold Oper.wp
  rw [h a w (st.frame hF.look) hk hx]
  exact ⟨v, rfl, Keeps.refl _ _, rfl, fun b hb => by cases hb⟩
theorem ob_wS {Fi : Fr} {s : RSpec} (hs : isOff ts es l i = false) (hp : isPure o = false) (hg : o.guard = none) (hF : FrSub Fi (depFr l rs i ++ baseFr l i F))
    (h : ∀ a w, St w0 D n Fi H a w → Keeps B w1 w → ExDone l rs (fun j => edgeB l i j) a w → ∃ v, (execOp a.eval o).run P w = .ok (.value v) w ∧ s.R v w ∧ s.blk v = []) : Ob1 P w0 w1 D B n H ts es l rs F i o (.spec s) := by
  refine ⟨?_⟩
  unfold Ob1core
  rw [hs]
  simp only [Bool.false_eq_true, if_false, hp]
  intro a w st hk hx
  rw [if_pos (by simp [Region.wanted, hg])]
  obtain ⟨v, h1, h2, h3⟩ := h a w (st.frame hF.look) hk hx
  unfold Oper.wp
  rw [h1]
  exact ⟨v, rfl, Keeps.refl _ _, h2, fun b hb => by rw [show (RS.spec s).to.blk v = [] from h3] at hb; cases hb⟩
theorem ob_alloc {t : TypeId} {z : Value} (hs : isOff ts es l i = false) (ho : o.op = .alloc t) (hz : (P.info? t).bind (·.zero) = some z) (hg : o.guard = none) : Ob1 P w0 w1 D B n H ts es l rs F i o (.spec (.new (.cells z.cells t (0, 0)))) := by
  have hp : isPure o = false := by unfold isPure; rw [ho]
  refine ⟨?_⟩
  unfold Ob1core
  rw [hs]
  simp only [Bool.false_eq_true, if_false, hp]
  intro a w st hk hx
  rw [if_pos (by simp [Region.wanted, hg])]
  have hzv : (zeroValue t).run P w = .ok z w := by
    cases hq : P.info? t with
    | none => simp [hq] at hz
    | some inf => simp [hq] at hz; simp [zeroValue, typeInfo, hq, hz]
  have hr : (execOp a.eval o).run P w = .ok (.value (.pointer (some ⟨w.heap.size, 0, none⟩))) (w.alloc (.cells z.cells t (0, 0))) := by
    unfold execOp
    simp only [ho, Instr.alloc, Sem.run_bind, hzv, Result.andThen_ok, newVar, newRow, run_newObj, Sem.run_pure]
    rfl
  unfold Oper.wp
  rw [hr]
  refine ⟨_, rfl, (Keeps.refl [] w).alloc _, ⟨w.heap.size, rfl, ?_⟩, fun b hb => ?_⟩
  · show (w.heap.push _)[w.heap.size]? = _; simp
  · have hb : b ∈ [w.heap.size] := hb
    rw [List.mem_singleton] at hb
    subst hb
    exact ⟨Nat.le_refl _, by rw [World.size_alloc]; exact Nat.lt_succ_self _⟩
/-- The same, of a variable that an early store writes. -/
theorem ob_cell {t : TypeId} {z : Value} {sz : Nat} (hs : isOff ts es l i = false) (ho : o.op = .alloc t) (hz : (P.info? t).bind (·.zero) = some z) (hg : o.guard = none) (hz2 : z.cells.size = sz) : Ob1 P w0 w1 D B n H ts es l rs F i o (.spec (.cell t sz)) := by
  have hp : isPure o = false := by unfold isPure; rw [ho]
  refine ⟨?_⟩
  unfold Ob1core
  rw [hs]
  simp only [Bool.false_eq_true, if_false, hp]
  intro a w st hk hx
  rw [if_pos (by simp [Region.wanted, hg])]
  have hzv : (zeroValue t).run P w = .ok z w := by
    cases hq : P.info? t with
    | none => simp [hq] at hz
    | some inf => simp [hq] at hz; simp [zeroValue, typeInfo, hq, hz]
  have hr : (execOp a.eval o).run P w = .ok (.value (.pointer (some ⟨w.heap.size, 0, none⟩))) (w.alloc (.cells z.cells t (0, 0))) := by
    unfold execOp
    simp only [ho, Instr.alloc, Sem.run_bind, hzv, Result.andThen_ok, newVar, newRow, run_newObj, Sem.run_pure]
    rfl
  unfold Oper.wp
  rw [hr]
  refine ⟨_, rfl, (Keeps.refl [] w).alloc _, ⟨w.heap.size, z.cells, rfl, ?_, hz2⟩, fun b hb => ?_⟩
  · show (w.heap.push _)[w.heap.size]? = _; simp
  · have hb : b ∈ [w.heap.size] := hb
    rw [List.mem_singleton] at hb
    subst hb
    exact ⟨Nat.le_refl _, by rw [World.size_alloc]; exact Nat.lt_succ_self _⟩
/-- A call, by its contract. -/
theorem ob_call {Fi : Fr} {s : RS} {f : FuncId} {xs : List Operand} {tys : Array TypeId} {args : List Value} {Post : Value → World → Prop} (hs : isOff ts es l i = false) (ho : o.op = .call { callee := .value (.func f), args := xs.toArray, argTypes := tys })
    (hen : ∀ args w, (callFunc f args).run P w = .ok (.enter f args) w) (hg : o.guard = none) (hF : FrSub Fi (depFr l rs i ++ baseFr l i F))
    (ha : evAll Fi xs = some args)
    (h : ∀ a w, St w0 D n Fi H a w → Keeps B w1 w → ExDone l rs (fun j => edgeB l i j) a w → Fn P f args w [] Post)
    (hp : ∀ w v w', Keeps [] w w' → Post v w' → s.to.R v w' ∧ ∀ b, b ∈ s.to.blk v → w.heap.size ≤ b ∧ b < w'.heap.size) : Ob1 P w0 w1 D B n H ts es l rs F i o s := by
  have hpu : isPure o = false := by unfold isPure; rw [ho]
  refine ⟨?_⟩
  unfold Ob1core
  rw [hs]
  simp only [Bool.false_eq_true, if_false, hpu]
  intro a w st hk hx
  rw [if_pos (by simp [Region.wanted, hg])]
  have hrun : (execOp a.eval o).run P w = .ok (.enter f args.toArray) w := by
    unfold execOp
    simp only [ho, resolve, Deferred.ofValue, Act.eval, Sem.run_bind, Sem.run_pure, Result.andThen_ok, List.map_toArray, (st.frame hF.look).evAll ha, invoke, Array.append_empty, Array.empty_append, hen]
  unfold Oper.wp
  rw [hrun]
  refine Calls.mono (h a w (st.frame hF.look) hk hx) fun e w' he => ?_
  cases e with
  | returned v => obtain ⟨h1, h2⟩ := he; obtain ⟨h3, h4⟩ := hp w v w' h1 h2; exact ⟨v, rfl, h1, h3, h4⟩
  | panicked c => exact he.elim
  | outgrown => exact he.elim
/-- A call of what the model does in one step. -/
theorem r_extern (st : St w0 D n F H a w) {f : FuncId} {xs : List Operand} {tys : Array TypeId} {args : List Value} {v : Value} (ho : o.op = .call { callee := .value (.func f), args := xs.toArray, argTypes := tys })
    (ha : evAll F xs = some args) {w' : World} (hv : (callFunc f args.toArray).run P w' = .ok (.value v) w') : (execOp a.eval o).run P w' = .ok (.value v) w' := by
  unfold execOp
  simp only [ho, resolve, Deferred.ofValue, Act.eval, Sem.run_bind, Sem.run_pure, Result.andThen_ok, List.map_toArray, st.evAll ha, invoke, Array.append_empty, Array.empty_append, hv]
/-- A guarded operation of a pure kind that is not wanted, or is. -/
theorem ob_guard {v u : Value} {j d : Nat} {b c : Bool} (hs : isOff ts es l i = false) (hg : o.guard = some (j, b)) (hj : (l[j]?).bind (·.dst) = some d) (hb : (depFr l rs i ++ baseFr l i F).lookup d = some (.bool c))
    (hv : v = bif (c == b) then u else undef) (h : Ob1 P w0 w1 D B n H ts es l rs F i { o with guard := none } (.det u)) : Ob1 P w0 w1 D B n H ts es l rs F i o (.det v) := by
  replace h := h.out
  refine ⟨?_⟩
  unfold Ob1core at h ⊢
  rw [hs] at h
  rw [hs]
  simp only [Bool.false_eq_true, if_false] at h ⊢
  intro a w st hk hx
  have hy : yielded l.toArray a.tmps j = some c := st.yields (by simpa using hj) hb
  have h1 := h a w st hk hx
  have e1 : isPure { o with guard := none } = isPure o := rfl
  have e2 : Region.wanted { o with guard := none } (yielded l.toArray a.tmps) = true := by simp [Region.wanted]
  rw [e1] at h1
  by_cases hcb : c = b
  · subst hcb
    simp at hv
    subst hv
    have hw : Region.wanted o (yielded l.toArray a.tmps) = true := by simp [Region.wanted, hg, hy]
    by_cases hp : isPure o = true
    · rw [if_pos hp] at h1 ⊢
      obtain ⟨v, hyy, h2⟩ := h1
      refine ⟨v, .inl ⟨hw, ?_⟩, h2⟩
      rcases hyy with ⟨_, h3⟩ | ⟨h3, _⟩
      · exact h3
      · rw [e2] at h3; cases h3
    · rw [if_neg hp] at h1 ⊢
      rw [if_pos e2] at h1
      rw [if_pos hw]
      exact h1
  · have hne : (c == b) = false := by simpa using hcb
    rw [hne] at hv
    simp at hv
    subst hv
    have hw : Region.wanted o (yielded l.toArray a.tmps) = false := by simp [Region.wanted, hg, hy, hcb]
    by_cases hp : isPure o = true
    · rw [if_pos hp]
      exact ⟨undef, .inr ⟨hw, rfl⟩, rfl, rfl⟩
    · rw [if_neg hp, hw]
      simp only [Bool.false_eq_true, if_false]
      exact ⟨rfl, rfl⟩
/-- A guarded operation that is not wanted. -/
theorem ob_skip {j d : Nat} {b c : Bool} (hs : isOff ts es l i = false) (hg : o.guard = some (j, b)) (hj : (l[j]?).bind (·.dst) = some d) (hb : (depFr l rs i ++ baseFr l i F).lookup d = some (.bool c)) (hc : (c == b) = false) :
    Ob1 P w0 w1 D B n H ts es l rs F i o (.det undef) := by
  refine ⟨?_⟩
  unfold Ob1core
  rw [hs]
  simp only [Bool.false_eq_true, if_false]
  intro a w st hk hx
  have hy : yielded l.toArray a.tmps j = some c := st.yields (by simpa using hj) hb
  have hw : Region.wanted o (yielded l.toArray a.tmps) = false := by
    have : ¬ c = b := by simpa using hc
    simp [Region.wanted, hg, hy, this]
  by_cases hp : isPure o = true
  · rw [if_pos hp]; exact ⟨undef, .inr ⟨hw, rfl⟩, rfl, rfl⟩
  · rw [if_neg hp, hw]
    simp only [Bool.false_eq_true, if_false]
    exact ⟨rfl, rfl⟩
theorem all0 {α : Type} {p : α → Prop} : ∀ y, y ∈ ([] : List α) → p y := fun y h => by simp at h
theorem all1 {α : Type} {p : α → Prop} {x : α} {r : List α} (h : p x) (k : ∀ y, y ∈ r → p y) : ∀ y, y ∈ x :: r → p y := fun y hy => by
  rcases List.mem_cons.1 hy with rfl | hy
  · exact h
  · exact k y hy
theorem perm_erase {α : Type} : ∀ (l : List α) (i : Nat) (h : i < l.length), (l[i] :: l.eraseIdx i).Perm l
  | x :: r, 0, _ => List.Perm.refl _
  | x :: r, i + 1, h => (List.Perm.swap _ _ _).trans ((perm_erase r i (by simpa using h)).cons x)
/-- An own block to the front. -/
theorem St.front (st : St w0 D n F H a w) (i : Nat) {x : Nat × Obj} (h : H[i]? = some x) : St w0 D n F (x :: H.eraseIdx i) a w := by
  obtain ⟨hi, rfl⟩ := List.getElem?_eq_some_iff.1 h
  have hp := perm_erase H i hi
  exact { st with hp := fun y hy => st.hp y (hp.subset hy), own := fun y hy => st.own y (hp.subset hy), nd := ((hp.map _).nodup_iff).2 st.nd }
end Go.Proofs.YtnkbhmonceiocaaDoor
