/-
  More operations of a walk in the small logic of Core: entering, returning, calls, addresses, slices. No program text stands in it.
-/
import Derived.Test.YtnkbhmonceiocaaDoorOps
namespace Go.Proofs.YtnkbhmonceiocaaDoor
open Go Go.RowKit
variable {P : Program} {w0 : World} {D : List Nat} {n : Nat} {F : Fr} {H : Hp} {a : Act} {w : World}
variable {ops : Array Oper} {Q : Exit → Act → World → Prop} {rest : List Oper} {o : Oper}

/-! ### A call's contract, entering, returning -/
def Fin (D : List Nat) (w0 : World) (Post : Value → World → Prop) : Ending → World → Prop
  | .returned v, w' => Keeps D w0 w' ∧ Post v w'
  | _, _ => False
/-- Called so, in this world, it returns; of what was there only the blocks of D may have changed; and Post. -/
def Fn (P : Program) (f : FuncId) (args : List Value) (w0 : World) (D : List Nat) (Post : Value → World → Prop) : Prop := Calls P f args.toArray w0 (Fin D w0 Post)

theorem Fn.mono {f : FuncId} {args : List Value} {D : List Nat} {Post Post' : Value → World → Prop} (h : Fn P f args w D Post) (hp : ∀ v w', Keeps D w w' → Post v w' → Post' v w') : Fn P f args w D Post' :=
  Calls.mono h fun e w' he => by
    cases e with
    | returned v => exact ⟨he.1, hp _ _ he.1 he.2⟩
    | panicked c => exact he
    | outgrown => exact he

def argFr : Nat → List Value → Fr
  | _, [] => []
  | i, v :: vs => (i, v) :: argFr (i + 1) vs
theorem argFr_look : ∀ (vs : List Value) (i t : Nat) (v : Value), (argFr i vs).lookup t = some v → i ≤ t ∧ vs[t - i]? = some v
  | [], i, t, v, h => by simp [argFr] at h
  | u :: vs, i, t, v, h => by
    unfold argFr at h
    rw [lookup_cons] at h
    by_cases e : t = i
    · subst e; rw [if_pos rfl] at h; simp; simpa using h
    · rw [if_neg e] at h
      obtain ⟨h1, h2⟩ := argFr_look vs (i + 1) t v h
      refine ⟨by omega, ?_⟩
      rw [show t - i = (t - (i + 1)) + 1 by omega]
      simpa using h2
theorem x_enter {f : FuncId} {fn : Func} {c : Code} {args : List Value} {Post : Value → World → Prop} (hf : P.funcs[f]? = some fn) (hb : fn.body = some c) (hn : fn.ntmps = n) (hl : args.length ≤ n)
    (h : ∀ a, St w0 D n (argFr 0 args) [] a w0 → c.wp P (bodyPost P fn (Fin D w0 Post)) a w0) : Fn P f args w0 D Post := by
  refine calls_of_wp hf hb (h _ ?_)
  refine ⟨by simp [hn]; omega, rfl, ?_, by simp, by simp, by simp, Keeps.refl _ _⟩
  intro t v ht
  obtain ⟨_, h2⟩ := argFr_look args 0 t v ht
  simp only [Nat.sub_zero] at h2
  have hlt : t < args.length := (List.getElem?_eq_some_iff.1 h2).1
  simp only [Array.getElem?_append, List.size_toArray, hlt, if_true]
  simpa using h2

def ResAre (P : Program) (F : Fr) (w : World) : List ResultVar → List Value → Prop
  | [], [] => True
  | .tmp t :: rs, v :: vs => F.lookup t = some v ∧ ResAre P F w rs vs
  | .cell t ty :: rs, v :: vs => (∃ ad, F.lookup t = some (.pointer (some ad)) ∧ (loadVar ty ad).run P w = .ok v w) ∧ ResAre P F w rs vs
  | _, _ => False
def resOne (tmps : Array Value) : ResultVar → Sem Value
  | .tmp t => pure (tmps.getD t undef)
  | .cell x t => do loadVar t (← asAddr (tmps.getD x undef))
theorem results_eq (fn : Func) (tmps : Array Value) : results fn tmps = (do let vs ← fn.results.mapM (resOne tmps); pure (if h : vs.size = 1 then vs[0] else .tuple vs)) := rfl
theorem res_mapM (st : St w0 D n F H a w) : ∀ (rs : List ResultVar) (vs : List Value), ResAre P F w rs vs → (rs.mapM (resOne a.tmps)).run P w = .ok vs w
  | [], [], _ => rfl
  | [], _ :: _, h => by simp [ResAre] at h
  | .tmp t :: rs, [], h => by simp [ResAre] at h
  | .cell t ty :: rs, [], h => by simp [ResAre] at h
  | .tmp t :: rs, v :: vs, h => by
    obtain ⟨h1, h2⟩ := h
    have ih := res_mapM st rs vs h2
    have hv : a.tmps.getD t undef = v := st.ev (x := .tmp t) h1
    have h1 : (resOne a.tmps (.tmp t)).run P w = .ok v w := by rw [← hv]; rfl
    simp only [List.mapM_cons, Sem.run_bind, h1, Sem.run_pure, Result.andThen_ok, ih]
  | .cell t ty :: rs, v :: vs, h => by
    obtain ⟨⟨ad, h1, hl⟩, h2⟩ := h
    have ih := res_mapM st rs vs h2
    have hv : a.tmps.getD t undef = .pointer (some ad) := st.ev (x := .tmp t) h1
    have h1 : (resOne a.tmps (.cell t ty)).run P w = .ok v w := by
      have ha : (asAddr (a.tmps.getD t undef)).run P w = .ok ad w := by rw [hv]; rfl
      simp only [resOne, Sem.run_bind, ha, Result.andThen_ok, hl]
    simp only [List.mapM_cons, Sem.run_bind, h1, Sem.run_pure, Result.andThen_ok, ih]
theorem run_results (st : St w0 D n F H a w) {fn : Func} {rs : List ResultVar} {vs : List Value} {v : Value} (hr : fn.results = rs.toArray) (hv : ResAre P F w rs vs) (hs : (if h : vs.toArray.size = 1 then vs.toArray[0] else .tuple vs.toArray) = v) :
    (results fn a.tmps).run P w = .ok v w := by
  have := res_mapM st rs vs hv
  rw [results_eq, hr, List.mapM_toArray]
  simp only [Sem.run_bind, Sem.run_map, this, Result.andThen_ok, Sem.run_pure]
  exact congrArg (fun x => Result.ok x w) hs
theorem x_ret (st : St w0 D n F H a w) {fn : Func} {rs : List ResultVar} {Post : Value → World → Prop} (vs : List Value) {v : Value} (hr : fn.results = rs.toArray) (hv : ResAre P F w rs vs)
    (hs : (if h : vs.toArray.size = 1 then vs.toArray[0] else .tuple vs.toArray) = v) (hp : Post v w) : Code.ret.wp P (bodyPost P fn (Fin D w0 Post)) a w :=
  wp_ret ⟨st.dfr, v, run_results st hr hv hs, st.keeps, hp⟩
theorem x_end (st : St w0 D n F H a w) {fn : Func} {rs : List ResultVar} {Post : Value → World → Prop} (vs : List Value) {v : Value} (hr : fn.results = rs.toArray) (hv : ResAre P F w rs vs)
    (hs : (if h : vs.toArray.size = 1 then vs.toArray[0] else .tuple vs.toArray) = v) (hp : Post v w) : bodyPost P fn (Fin D w0 Post) .normal a w :=
  ⟨st.dfr, v, run_results st hr hv hs, st.keeps, hp⟩
theorem x_wpret (h : Q .ret a w) : Code.ret.wp P Q a w := wp_ret h

def evAll (F : Fr) : List Operand → Option (List Value)
  | [] => some []
  | x :: xs => match evF F x with
    | some v => match evAll F xs with
      | some vs => some (v :: vs)
      | none => none
    | none => none
theorem St.evAll (st : St w0 D n F H a w) : ∀ {xs : List Operand} {vs : List Value}, evAll F xs = some vs → xs.map a.eval = vs
  | [], vs, h => by simp [Go.Proofs.YtnkbhmonceiocaaDoor.evAll] at h; subst h; rfl
  | x :: xs, vs, h => by
    unfold Go.Proofs.YtnkbhmonceiocaaDoor.evAll at h
    split at h
    · rename_i v hx
      split at h
      · rename_i us hxs
        cases h
        simp [st.ev hx, st.evAll hxs]
      · cases h
    · cases h

theorem x_call (st : St w0 D n F H a w) {f : FuncId} {xs : List Operand} {ts : Array TypeId} {args : List Value} {Post : Value → World → Prop} {d : Nat}
    (ho : o.op = .call { callee := .value (.func f), args := xs.toArray, argTypes := ts }) (ha : evAll F xs = some args)
    (hen : ∀ args w, (callFunc f args).run P w = .ok (.enter f args) w) (hg : o.guard = none) (hd : o.dst = some d) (hn : d < n)
    (hf : Fn P f args w [] Post)
    (h : ∀ a w' v, Keeps [] w w' → Post v w' → (∀ b, w.heap.size ≤ b → b ∉ H.map Prod.fst ∧ w0.heap.size ≤ b) → St w0 D n ((d, v) :: F) H a w' → wpList P ops Q rest a w') : wpList P ops Q (o :: rest) a w := by
  unfold wpList
  rw [if_pos (by simp [Region.wanted, hg])]
  refine .inl ?_
  unfold Oper.wp
  have hrun : (execOp a.eval o).run P w = .ok (.enter f args.toArray) w := by
    unfold execOp
    simp only [ho, resolve, Deferred.ofValue, Act.eval, Sem.run_bind, Sem.run_pure, Result.andThen_ok, List.map_toArray, st.evAll ha, invoke, Array.append_empty, Array.empty_append, hen]
  rw [hrun]
  refine Calls.mono hf fun e w' he => ?_
  cases e with
  | returned v =>
    obtain ⟨hk, hp⟩ := he
    show wpList P ops Q rest (a.put o.dst v) w'
    rw [hd]
    refine h _ w' v hk hp (fun b hb => ⟨st.fresh hb, Nat.le_trans st.keeps.size hb⟩) (St.put ⟨st.size, st.dfr, st.fr, fun x hx => hk.get (st.hp x hx) (by simp), st.own, st.nd, st.keeps.trans' hk⟩ v hn)
  | panicked c => exact he.elim
  | outgrown => exact he.elim
/-- A block that a callee has made. -/
theorem St.add (st : St w0 D n F H a w) {b : Nat} {ob : Obj} (hb : w.heap[b]? = some ob) (hn : b ∉ H.map Prod.fst ∧ w0.heap.size ≤ b) : St w0 D n F ((b, ob) :: H) a w where
  size := st.size
  dfr := st.dfr
  fr := st.fr
  hp := fun x hx => by
    rcases List.mem_cons.1 hx with rfl | hx
    · exact hb
    · exact st.hp x hx
  own := fun x hx => by
    rcases List.mem_cons.1 hx with rfl | hx
    · exact .inr hn.2
    · exact st.own x hx
  nd := by simp only [List.map_cons, List.nodup_cons]; exact ⟨hn.1, st.nd⟩
  keeps := st.keeps

/-! ### Addresses -/
theorem x_index (st : St w0 D n F H a w) {t : TypeId} {x i : Operand} {xv iv v : Value} {d : Nat} (ho : o.op = .indexAddr t x i) (hx : evF F x = some xv) (hi : evF F i = some iv)
    (hv : (Instr.indexAt t xv iv).run P w = .ok v w) (hg : o.guard = none) (hd : o.dst = some d) (hn : d < n)
    (h : ∀ a, St w0 D n ((d, v) :: F) H a w → wpList P ops Q rest a w) : wpList P ops Q (o :: rest) a w :=
  x_val hg (v := v) (w' := w) (by unfold execOp; simp only [ho, st.ev hx, st.ev hi, Sem.run_bind, Sem.run_pure, Result.andThen_ok, hv]) (by rw [hd]; exact h _ (st.put _ hn))
theorem run_sizeOf {t : TypeId} {s : Nat} (hs : (P.info? t).map (·.size) = some s) (w : World) : (sizeOf t).run P w = .ok s w := by
  cases hq : P.info? t with
  | none => simp [hq] at hs
  | some inf => simp [hq] at hs; simp [sizeOf, typeInfo, hq, hs]
theorem addr_add (b o m : Nat) : (⟨b, o, none⟩ : Addr).add m = ⟨b, o + m, none⟩ := by unfold Addr.add; split <;> simp_all
theorem run_indexA {t e : TypeId} {len s b o k : Nat} {kd : IntKind} (hu : P.underlying t = some (.array len e)) (hs : (P.info? e).map (·.size) = some s) (hk : k < len) (w : World) :
    (Instr.indexAt t (.pointer (some ⟨b, o, none⟩)) (.int kd (k : Nat))).run P w = .ok (.pointer (some ⟨b, o + k * s, none⟩)) w := by
  have h1 : (0 : Int) ≤ (k : Int) ∧ (k : Int) < (len : Int) := by omega
  simp only [Instr.indexAt, asIntOf, Sem.run_bind, Sem.run_pure, Result.andThen_ok, run_underlying hu w, Instr.sureAddr, h1, and_self, if_true, run_sizeOf hs w, Int.toNat_natCast, addr_add]
theorem run_indexS {t e : TypeId} {len cap s b o k : Nat} {kd : IntKind} (hu : P.underlying t = some (.slice e)) (hs : (P.info? e).map (·.size) = some s) (hk : k < len) (w : World) :
    (Instr.indexAt t (.slice (some ⟨b, o, none⟩) len cap) (.int kd (k : Nat))).run P w = .ok (.pointer (some ⟨b, o + k * s, none⟩)) w := by
  have h1 : (0 : Int) ≤ (k : Int) ∧ (k : Int) < (len : Int) := by omega
  simp only [Instr.indexAt, asIntOf, Sem.run_bind, Sem.run_pure, Result.andThen_ok, run_underlying hu w, h1, and_self, if_true, run_sizeOf hs w, Int.toNat_natCast, addr_add]

/-- Where a field of no size nought stands. -/
def fieldOff (P : Program) (s i : Nat) : Option Nat := match P.underlying s with
  | some (.struct fs) => match fs[i]? with
    | some f => match (P.info? f.type).map (·.size) with
      | some 0 => none
      | some _ => some f.offset
      | none => none
    | none => none
  | _ => none
theorem run_fieldAt {s i off b o : Nat} (hf : fieldOff P s i = some off) (w : World) : (Instr.fieldAt s (.pointer (some ⟨b, o, none⟩)) i).run P w = .ok (.pointer (some ⟨b, o + off, none⟩)) w := by
  unfold fieldOff at hf
  split at hf
  · rename_i fs hu
    split at hf
    · rename_i f hi
      split at hf
      · cases hf
      · rename_i m hm hsz
        cases hf
        have hz : m ≠ 0 := fun e => by subst e; exact hm rfl
        simp only [Instr.fieldAt, Sem.run_bind, Sem.run_pure, Result.andThen_ok, run_underlying hu w, hi, Instr.sureAddr, fieldPlace, run_sizeOf hsz w, if_neg hz, addr_add]
      · cases hf
    · cases hf
  · cases hf
theorem x_field (st : St w0 D n F H a w) {s i off b ao : Nat} {x : Operand} {d : Nat} (ho : o.op = .fieldAddr s x i) (hx : evF F x = some (.pointer (some ⟨b, ao, none⟩)))
    (hf : fieldOff P s i = some off) (hg : o.guard = none) (hd : o.dst = some d) (hn : d < n)
    (h : ∀ a, St w0 D n ((d, .pointer (some ⟨b, ao + off, none⟩)) :: F) H a w → wpList P ops Q rest a w) : wpList P ops Q (o :: rest) a w :=
  x_val hg (v := .pointer (some ⟨b, ao + off, none⟩)) (w' := w) (by unfold execOp; simp only [ho, st.ev hx, Sem.run_bind, Sem.run_pure, Result.andThen_ok, run_fieldAt hf]) (by rw [hd]; exact h _ (st.put _ hn))

/-! ### Parts of values -/
theorem x_fieldV (st : St w0 D n F H a w) {t i : Nat} {x : Operand} {xv v : Value} {d : Nat} (ho : o.op = .field t x i) (hx : evF F x = some xv)
    (hv : (Instr.field t xv i).run P w = .ok v w) (hg : o.guard = none) (hd : o.dst = some d) (hn : d < n)
    (h : ∀ a, St w0 D n ((d, v) :: F) H a w → wpList P ops Q rest a w) : wpList P ops Q (o :: rest) a w :=
  x_val hg (v := v) (w' := w) (by unfold execOp; simp only [ho, st.ev hx, Sem.run_bind, Sem.run_pure, Result.andThen_ok, hv]) (by rw [hd]; exact h _ (st.put _ hn))
theorem run_field1 {t i : Nat} {fs : Array Field} {f : Field} {C : Array Value} {dd : TypeDesc} {v : Value} (hu : P.underlying t = some (.struct fs)) (hi : fs[i]? = some f) (hd : P.underlying f.type = some dd) (hr : dd.isRow = false) (hv : C[f.offset]? = some v) (w : World) :
    (Instr.field t (.agg C) i).run P w = .ok v w := by
  have hagg : (isAgg f.type).run P w = .ok false w := by
    unfold isAgg
    rw [Sem.run_bind, run_underlying hd w]
    cases dd <;> simp_all
  simp only [Instr.field, Sem.run_bind, Sem.run_pure, Result.andThen_ok, run_underlying hu w, hi, asAgg, part, hagg, hv]
  rfl

/-! ### Slices, lengths -/
theorem x_len (st : St w0 D n F H a w) {t e : TypeId} {x : Operand} {ad : Option Addr} {len cap : Nat} {d : Nat} (ho : o.op = .call { callee := .builtin .len, args := #[x], argTypes := #[t] })
    (hx : evF F x = some (.slice ad len cap)) (hu : P.underlying t = some (.slice e)) (hg : o.guard = none) (hd : o.dst = some d) (hn : d < n)
    (h : ∀ a, St w0 D n ((d, .int .i64 (len : Nat)) :: F) H a w → wpList P ops Q rest a w) : wpList P ops Q (o :: rest) a w :=
  x_val hg (v := .int .i64 (len : Nat)) (w' := w) (by
    unfold execOp
    simp only [ho, resolve, Sem.run_bind, Sem.run_pure, Result.andThen_ok, invoke, builtin, Builtin.len_, List.map_toArray, List.map_cons, List.map_nil, st.ev hx]
    simp [run_underlying hu w, goInt]) (by rw [hd]; exact h _ (st.put _ hn))
theorem x_slice (st : St w0 D n F H a w) {t : TypeId} {x : Operand} {lo hi mx : Option Operand} {xv v : Value} {lv hv' mv : Option Value} {d : Nat} (ho : o.op = .slice t x lo hi mx) (hx : evF F x = some xv)
    (hlo : lo.bind (evF F) = lv) (hlo' : lv.isSome = lo.isSome) (hhi : hi.bind (evF F) = hv') (hhi' : hv'.isSome = hi.isSome) (hmx : mx = none ∧ mv = none)
    (hv : (Instr.sliceAt t xv lv hv' mv).run P w = .ok v w) (hg : o.guard = none) (hd : o.dst = some d) (hn : d < n)
    (h : ∀ a, St w0 D n ((d, v) :: F) H a w → wpList P ops Q rest a w) : wpList P ops Q (o :: rest) a w := by
  obtain ⟨rfl, rfl⟩ := hmx
  have e1 : ∀ (y : Option Operand) (u : Option Value), y.bind (evF F) = u → u.isSome = y.isSome → y.map a.eval = u := by
    intro y u hy hs
    cases y with
    | none => subst hy; rfl
    | some z =>
      cases u with
      | none => simp at hs
      | some q => simp at hy; simp [st.ev hy]
  exact x_val hg (v := v) (w' := w) (by unfold execOp; simp only [ho, st.ev hx, e1 _ _ hlo hlo', e1 _ _ hhi hhi', Option.map_none, Sem.run_bind, Sem.run_pure, Result.andThen_ok, hv]) (by rw [hd]; exact h _ (st.put _ hn))
/-- arr[:h] of an array variable. -/
theorem run_sliceA {t e : TypeId} {len s b o k : Nat} {kd : IntKind} (hu : P.underlying t = some (.array len e)) (hs : (P.info? e).map (·.size) = some s) (hk : k ≤ len) (w : World) :
    (Instr.sliceAt t (.pointer (some ⟨b, o, none⟩)) none (some (.int kd (k : Nat))) none).run P w = .ok (.slice (some ⟨b, o, none⟩) k len) w := by
  have h1 : (0 : Int) ≤ (k : Int) ∧ (k : Int) ≤ (len : Int) := by omega
  simp only [Instr.sliceAt, run_underlying hu w, Instr.sureAddr, Instr.sliceBounds, Instr.sliceBound, asIntOf, Sem.run_bind, Sem.run_pure, Result.andThen_ok, h1, and_self, if_true, Int.toNat_natCast, run_sizeOf hs w]
  simp [addr_add]
theorem run_sliceA0 {t e : TypeId} {len s b o : Nat} (hu : P.underlying t = some (.array len e)) (hs : (P.info? e).map (·.size) = some s) (w : World) :
    (Instr.sliceAt t (.pointer (some ⟨b, o, none⟩)) none none none).run P w = .ok (.slice (some ⟨b, o, none⟩) len len) w := by
  simp only [Instr.sliceAt, run_underlying hu w, Instr.sureAddr, Instr.sliceBounds, Sem.run_bind, Sem.run_pure, Result.andThen_ok, run_sizeOf hs w]
  simp [addr_add]
/-- xs[l:h] of a slice. -/
theorem run_sliceS {t e : TypeId} {len cap s b o l k : Nat} {kd kd' : IntKind} (hu : P.underlying t = some (.slice e)) (hs : (P.info? e).map (·.size) = some s) (hl : l ≤ k) (hk : k ≤ cap) (hc : l < cap) (w : World) :
    (Instr.sliceAt t (.slice (some ⟨b, o, none⟩) len cap) (some (.int kd (l : Nat))) (some (.int kd' (k : Nat))) none).run P w = .ok (.slice (some ⟨b, o + l * s, none⟩) (k - l) (cap - l)) w := by
  have h1 : (0 : Int) ≤ (k : Int) ∧ (k : Int) ≤ (cap : Int) := by omega
  have h2 : (0 : Int) ≤ (l : Int) ∧ (l : Int) ≤ (k : Int) := by omega
  have h3 : ¬ cap = l := by omega
  simp only [Instr.sliceAt, Instr.slice, run_underlying hu w, Instr.sliceBounds, Instr.sliceBound, asIntOf, Sem.run_bind, Sem.run_pure, Result.andThen_ok, h1, h2, and_self, if_true, Int.toNat_natCast, run_sizeOf hs w, h3, if_false, Option.map_some, addr_add]
theorem run_sliceS0 {t e : TypeId} {len cap s k : Nat} {ad : Option Addr} {kd : IntKind} (hu : P.underlying t = some (.slice e)) (hs : (P.info? e).map (·.size) = some s) (hk : k ≤ cap) (w : World) :
    (Instr.sliceAt t (.slice ad len cap) none (some (.int kd (k : Nat))) none).run P w = .ok (.slice ad k cap) w := by
  have h1 : (0 : Int) ≤ (k : Int) ∧ (k : Int) ≤ (cap : Int) := by omega
  simp only [Instr.sliceAt, Instr.slice, run_underlying hu w, Instr.sliceBounds, Instr.sliceBound, asIntOf, Sem.run_bind, Sem.run_pure, Result.andThen_ok, h1, and_self, if_true, Int.toNat_natCast, run_sizeOf hs w]
  cases ad with
  | none => simp
  | some x => obtain ⟨b, o, sp⟩ := x; simp [Addr.add]

/-! ### Numbers -/
theorem x_conv (st : St w0 D n F H a w) {s t : TypeId} {x : Operand} {k k' : IntKind} {m z : Int} {d : Nat} {ds : TypeDesc} (ho : o.op = .convert s t x) (hx : evF F x = some (.int k m))
    (hs : P.underlying s = some ds) (ht : P.underlying t = some (.int k')) (hz : k'.wrap m = z) (hg : o.guard = none) (hd : o.dst = some d) (hn : d < n)
    (h : ∀ a, St w0 D n ((d, .int k' z) :: F) H a w → wpList P ops Q rest a w) : wpList P ops Q (o :: rest) a w :=
  x_val hg (v := .int k' z) (w' := w) (by
    unfold execOp
    subst hz
    simp only [ho, st.ev hx, convert, run_underlying hs w, run_underlying ht w, Sem.run_bind, Sem.run_pure, Result.andThen_ok, Conv.intToInt]) (by rw [hd]; exact h _ (st.put _ hn))
/-- Any other operation on two numbers (a shift, a division, bits), by what the model says of it. -/
theorem x_num (st : St w0 D n F H a w) {op : BinOp} {t ty : TypeId} {x y : Operand} {j k : IntKind} {b c : Int} {v : Value} {d : Nat} (ho : o.op = .binOp op t x y ty) (hx : evF F x = some (.int j b)) (hy : evF F y = some (.int k c))
    (hv : (binOp op t (.int j b) (.int k c)).run P w = .ok v w) (hg : o.guard = none) (hd : o.dst = some d) (hn : d < n)
    (h : ∀ a, St w0 D n ((d, v) :: F) H a w → wpList P ops Q rest a w) : wpList P ops Q (o :: rest) a w :=
  x_val hg (v := v) (w' := w) (by unfold execOp; simp only [ho, st.ev hx, st.ev hy, Sem.run_bind, Sem.run_pure, Result.andThen_ok, eqGuard_ints, hv]) (by rw [hd]; exact h _ (st.put _ hn))
theorem run_shr {t : TypeId} {k k' : IntKind} {x : Int} {m : Nat} {z : Int} (hm : m < k.bits) (hz : x / 2 ^ m = z) (w : World) : (binOp .shr t (.int k x) (.int k' (m : Nat))).run P w = .ok (.int k z) w := by
  subst hz
  have h0 : ¬ ((m : Int) < 0) := by omega
  have h1 : min m k.bits = m := by omega
  simp only [binOp, Op.shift, h0, if_false, Int.toNat_natCast, h1, Sem.run_pure]
  rw [Int.fdiv_eq_ediv_of_nonneg _ (by exact_mod_cast Nat.zero_le _)]
theorem run_shl {t : TypeId} {k k' : IntKind} {x : Int} {m : Nat} {z : Int} (hm : m ≤ k.bits) (hz : k.wrap (x * 2 ^ m) = z) (w : World) : (binOp .shl t (.int k x) (.int k' (m : Nat))).run P w = .ok (.int k z) w := by
  subst hz
  have h0 : ¬ ((m : Int) < 0) := by omega
  have h1 : min m k.bits = m := by omega
  simp only [binOp, Op.shift, h0, if_false, Int.toNat_natCast, h1, Sem.run_pure]
theorem run_quo {t : TypeId} {k : IntKind} {x y z : Int} (hy : y ≠ 0) (hz : k.wrap (x.tdiv y) = z) (w : World) : (binOp .quo t (.int k x) (.int k y)).run P w = .ok (.int k z) w := by
  subst hz
  simp [binOp, Op.intDiv, hy]
theorem run_rem {t : TypeId} {k : IntKind} {x y z : Int} (hy : y ≠ 0) (hz : x.tmod y = z) (w : World) : (binOp .rem t (.int k x) (.int k y)).run P w = .ok (.int k z) w := by
  subst hz
  simp [binOp, Op.intDiv, hy]
end Go.Proofs.YtnkbhmonceiocaaDoor
