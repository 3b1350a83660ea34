/-
  The operations of a walk in the small logic of Core, one lemma for each kind. No program text stands in it.
-/
import Derived.Test.YtnkbhmonceiocaaDoorCore
namespace Go.Proofs.YtnkbhmonceiocaaDoor
open Go Go.RowKit
variable {P : Program} {w0 : World} {D : List Nat} {n : Nat} {F : Fr} {H : Hp} {a : Act} {w : World}
variable {ops : Array Oper} {Q : Exit → Act → World → Prop} {rest : List Oper} {o : Oper}

/-! ### Operations on values alone -/
def intBin : BinOp → IntKind → Int → Int → Option Value
  | .add, k, x, y => some (.int k (k.wrap (x + y)))
  | .sub, k, x, y => some (.int k (k.wrap (x - y)))
  | .mul, k, x, y => some (.int k (k.wrap (x * y)))
  | .eql, _, x, y => some (.bool (x == y))
  | .neq, _, x, y => some (.bool (x != y))
  | .lss, _, x, y => some (.bool (decide (x < y)))
  | .leq, _, x, y => some (.bool (decide (x ≤ y)))
  | .gtr, _, x, y => some (.bool (decide (x > y)))
  | .geq, _, x, y => some (.bool (decide (x ≥ y)))
  | _, _, _, _ => none
theorem intBin_run {op : BinOp} {t : TypeId} {k : IntKind} {x y : Int} {v : Value} (h : intBin op k x y = some v) (w : World) :
    (binOp op t (.int k x) (.int k y)).run P w = .ok v w := by
  cases op <;> simp [intBin] at h <;> subst h <;> simp [binOp, Op.intArith, Op.intCmp, Pure.pure, Sem.run]

def kindsEq : IntKind → IntKind → Bool
  | .i8, .i8 | .i16, .i16 | .i32, .i32 | .i64, .i64 | .u8, .u8 | .u16, .u16 | .u32, .u32 | .u64, .u64 => true
  | _, _ => false
theorem kindsEq_eq {j k : IntKind} (h : kindsEq j k = true) : j = k := by cases j <;> cases k <;> first | rfl | (simp [kindsEq] at h)

def boolBin : BinOp → Bool → Bool → Option Value
  | .eql, x, y => some (.bool (x == y))
  | .neq, x, y => some (.bool (!(x == y)))
  | _, _, _ => none

def valBin (op : BinOp) : Value → Value → Option Value
  | .int j x, .int k y => match kindsEq j k with | true => intBin op j x y | false => none
  | _, _ => none

def pureOp (F : Fr) : Op → Option Value
  | .move x => evF F x
  | .assign x => evF F x
  | .pick c x y => match evF F c with
    | some (.bool t) => match evF F x with
      | some u => match evF F y with
        | some v => some (bif t then u else v)
        | none => none
      | none => none
    | _ => none
  | .extract x i => match evF F x with
    | some (.tuple vs) => vs[i]?
    | _ => none
  | .unOp .not _ x => match evF F x with
    | some (.bool b) => some (.bool (!b))
    | _ => none
  | .binOp op _ x y _ => match evF F x with
    | some u => match evF F y with
      | some v => valBin op u v
      | none => none
    | none => none
  | _ => none

theorem eqGuard_ints (op : BinOp) (t : TypeId) (x y : Operand) (j k : IntKind) (b c : Int) : (eqGuard op t x y (.int j b) (.int k c)).run P w = .ok () w := by
  unfold eqGuard
  cases op <;> simp [Pure.pure, Sem.run]

theorem pureOp_run (st : St w0 D n F H a w) {v : Value} (h : pureOp F o.op = some v) : (execOp a.eval o).run P w = .ok (.value v) w := by
  unfold execOp
  cases ho : o.op <;> rw [ho] at h <;> simp only [pureOp] at h
  case move x => simp [st.ev h]
  case assign x => simp [st.ev h]
  case pick c x y =>
    split at h
    · rename_i t hc
      split at h
      · rename_i u hx
        split at h
        · rename_i v' hy
          cases h
          simp only [st.ev hc, st.ev hx, st.ev hy, asBool, Sem.run_bind, Sem.run_pure, Result.andThen_ok]
          cases t <;> rfl
        · cases h
      · cases h
    · cases h
  case extract x i =>
    split at h
    · rename_i vs hx
      simp only [st.ev hx, Instr.extract, h, Sem.run_bind, Sem.run_pure, Result.andThen_ok]
    · cases h
  case unOp u t x =>
    cases u <;> simp at h
    split at h
    · rename_i b hx
      cases h
      simp [st.ev hx, Op.unary]
    · cases h
  case binOp op t x y ty =>
    split at h
    · rename_i u hx
      split at h
      · rename_i v' hy
        simp only [st.ev hx, st.ev hy]
        unfold valBin at h
        split at h
        · rename_i j b k c
          split at h
          · rename_i hk
            have := kindsEq_eq hk
            subst this
            simp only [Sem.run_bind, eqGuard_ints, Result.andThen_ok, intBin_run h, Sem.run_pure]
          · cases h
        · cases h
      · cases h
    · cases h
  all_goals cases h

/-- One such operation; its value may be told in another spelling. -/
theorem xp (st : St w0 D n F H a w) {u : Value} (v : Value) {d : Nat} (hp : pureOp F o.op = some u) (hv : u = v) (hg : o.guard = none) (hd : o.dst = some d) (hn : d < n)
    (h : ∀ a, St w0 D n ((d, v) :: F) H a w → wpList P ops Q rest a w) : wpList P ops Q (o :: rest) a w := by
  subst hv
  exact x_val hg (pureOp_run st hp) (by rw [hd]; exact h _ (st.put _ hn))

/-- Some such operations, one behind another. -/
def segRun (n : Nat) : Nat → Fr → List Oper → Option (Fr × List Oper)
  | 0, F, l => some (F, l)
  | _ + 1, F, [] => some (F, [])
  | k + 1, F, o :: l => match o.guard, o.dst with
    | none, some d => match Nat.blt d n with
      | true => match pureOp F o.op with
        | some v => segRun n k ((d, v) :: F) l
        | none => none
      | false => none
    | _, _ => none
theorem xseg_aux : ∀ (k : Nat) (F : Fr) (l : List Oper) (F' : Fr) (l' : List Oper) (a : Act), segRun n k F l = some (F', l') → St w0 D n F H a w →
    (∀ a, St w0 D n F' H a w → wpList P ops Q l' a w) → wpList P ops Q l a w
  | 0, F, l, F', l', a, hr, st, h => by simp [segRun] at hr; obtain ⟨rfl, rfl⟩ := hr; exact h a st
  | _ + 1, F, [], F', l', a, hr, st, h => by simp [segRun] at hr; obtain ⟨rfl, rfl⟩ := hr; exact h a st
  | k + 1, F, o :: l, F', l', a, hr, st, h => by
    unfold segRun at hr
    split at hr
    · rename_i d hg hd
      split at hr
      · rename_i hn
        split at hr
        · rename_i v hv
          exact xp st v hv rfl hg hd (by simpa [Nat.blt_eq] using hn) fun a st => xseg_aux k _ l F' l' a hr st h
        · cases hr
      · cases hr
    · cases hr
theorem xseg (k : Nat) (st : St w0 D n F H a w) {l : List Oper} {F' : Fr} {l' : List Oper} (hr : segRun n k F l = some (F', l'))
    (h : ∀ a, St w0 D n F' H a w → wpList P ops Q l' a w) : wpList P ops Q l a w := xseg_aux k F l F' l' a hr st h

/-! ### Regions, code -/
theorem x_region {id : Nat} {l : List Oper} (h : wpList P l.toArray Q l a w) : (Code.region id l.toArray false).wp P Q a w := by
  refine wp_region ?_
  have e : List.range l.toArray.size = List.range' 0 l.length := by simp [List.range_eq_range']
  rw [e, wpOps_eq_wpList l 0 (by simp)]
  exact h
theorem x_nil (h : Q .normal a w) : wpList P ops Q [] a w := h
theorem x_seq {x y : Code} (h : x.wp P (Exit.then (fun a w => y.wp P Q a w) Q) a w) : (Code.seq x y).wp P Q a w := wp_seq h
/-- What several ways come to is told once. -/
theorem x_cut {x y : Code} (M : Act → World → Prop) (h : x.wp P (Exit.then M Q) a w) (hm : ∀ a w, M a w → y.wp P Q a w) : (Code.seq x y).wp P Q a w :=
  wp_seq (wp_mono h fun e a w hq => by cases e <;> first | exact hm _ _ hq | exact hq)
theorem x_cond (st : St w0 D n F H a w) {c : Operand} {x y : Code} {t : Bool} (hc : evF F c = some (.bool t)) (h1 : t = true → x.wp P Q a w) (h0 : t = false → y.wp P Q a w) :
    (Code.cond c x y).wp P Q a w := wp_cond_split (st.ev hc) h1 h0
theorem x_condT (st : St w0 D n F H a w) {c : Operand} {x y : Code} (hc : evF F c = some (.bool true)) (h1 : x.wp P Q a w) :
    (Code.cond c x y).wp P Q a w := wp_cond_true (st.ev hc) h1
theorem x_condF (st : St w0 D n F H a w) {c : Operand} {x y : Code} (hc : evF F c = some (.bool false)) (h1 : y.wp P Q a w) :
    (Code.cond c x y).wp P Q a w := wp_cond_false (st.ev hc) h1
theorem x_condD (st : St w0 D n F H a w) {c : Operand} {x y : Code} {p : Prop} {i : Decidable p} (hc : evF F c = some (.bool (@decide p i))) (h1 : p → x.wp P Q a w) (h0 : ¬ p → y.wp P Q a w) :
    (Code.cond c x y).wp P Q a w := wp_cond_split (st.ev hc) (fun h => h1 (of_decide_eq_true h)) (fun h => h0 (of_decide_eq_false h))
theorem x_condE (st : St w0 D n F H a w) {c : Operand} {x y : Code} {i j : Int} (hc : evF F c = some (.bool (i == j))) (h1 : i = j → x.wp P Q a w) (h0 : i ≠ j → y.wp P Q a w) :
    (Code.cond c x y).wp P Q a w := wp_cond_split (st.ev hc) (fun h => h1 (by simpa using h)) (fun h => h0 (by simpa using h))
theorem x_condN (st : St w0 D n F H a w) {c : Operand} {x y : Code} {i j : Int} (hc : evF F c = some (.bool (i != j))) (h1 : i ≠ j → x.wp P Q a w) (h0 : i = j → y.wp P Q a w) :
    (Code.cond c x y).wp P Q a w := wp_cond_split (st.ev hc) (fun h => h1 (by simpa using h)) (fun h => h0 (by simpa using h))

/-- A loop, with a ghost. -/
theorem x_loop {G : Type} {c : Code} (I : G → Act → World → Prop) (μ : G → Nat) (g : G) (h₀ : I g a w)
    (round : ∀ g a w, I g a w → c.wp P (Exit.then (fun a' w' => ∃ g', I g' a' w' ∧ μ g' < μ g) Q) a w) : (Code.loop c).wp P Q a w := by
  intro b k cs
  have key : ∀ m g a w, μ g = m → I g a w →
      ∃ e a' w', Q e a' w' ∧ Arrives P (lone (b.at a (.code c :: .inLoop c :: k)) cs w) b k cs e a' w' := by
    intro m
    induction m using Nat.strongRecOn with
    | _ m ih =>
      intro g a w hn hI
      obtain ⟨e, a₁, w₁, hq, harr⟩ := round g a w hI b (.inLoop c :: k) cs
      cases e with
      | normal =>
        obtain ⟨g', hI₁, hlt⟩ := hq
        obtain ⟨e₂, a₂, w₂, hq₂, harr₂⟩ := ih (μ g') (hn ▸ hlt) g' a₁ w₁ rfl hI₁
        exact ⟨e₂, a₂, w₂, hq₂, .of_steps (Steps.trans harr (.one step_inLoop)) harr₂⟩
      | exit id => exact ⟨_, a₁, w₁, hq, .pass (x := .inLoop c) rfl (fun _ _ => .inl (by simp)) harr⟩
      | goto l => exact ⟨_, a₁, w₁, hq, .pass (x := .inLoop c) rfl (fun _ _ => .inl (by simp)) harr⟩
      | ret => exact ⟨_, a₁, w₁, hq, .pass (x := .inLoop c) rfl (fun _ _ => .inl (by simp)) harr⟩
      | panic ch => exact ⟨_, a₁, w₁, hq, .pass (x := .inLoop c) rfl (fun _ _ => .inl (by simp)) harr⟩
      | outgrown => exact ⟨_, a₁, w₁, hq, .pass (x := .inLoop c) rfl (fun _ _ => .inl (by simp)) harr⟩
  obtain ⟨e, a', w', hq, harr⟩ := key _ g a w rfl h₀
  exact ⟨e, a', w', hq, .of_steps (.one step_loop) harr⟩
theorem x_inBlock {id : Nat} (h : Q .normal a w) : Exit.inBlock id Q (.exit id) a w := by simp only [Exit.inBlock, if_true]; exact h
theorem x_outBlock {id id' : Nat} (hne : id' ≠ id) (h : Q (.exit id') a w) : Exit.inBlock id Q (.exit id') a w := by simp only [Exit.inBlock, if_neg hne]; exact h

/-! ### Memory -/
theorem St.at (st : St w0 D n F H a w) (i : Nat) {b : Nat} {ob : Obj} (h : H[i]? = some (b, ob)) : w.heap[b]? = some ob := st.hp _ (List.mem_of_getElem? h)
theorem St.old (st : St w0 D n F H a w) {b : Nat} {ob : Obj} (h : w0.heap[b]? = some ob) (hd : b ∉ D) : w.heap[b]? = some ob := st.keeps.get h hd

theorem run_load1 {b i : Nat} {t e : TypeId} {C : Array Value} {fz : Nat × Nat} {d : TypeDesc} {v : Value} (hg : w.heap[b]? = some (.cells C e fz)) (hu : P.underlying t = some d) (hd : d.isRow = false) (hv : C[i]? = some v) :
    (loadVar t ⟨b, i, none⟩).run P w = .ok v w := by
  have hagg : (isAgg t).run P w = .ok false w := by
    unfold isAgg
    rw [Sem.run_bind, run_underlying hu w]
    cases d <;> simp_all
  have hc : w.cell? ⟨b, i, none⟩ = some v := by rw [cell_of_row w b i C e fz hg]; exact hv
  simp [loadVar, Sem.run_bind, hagg, hc]
theorem run_loadA {b i m : Nat} {t e : TypeId} {C : Array Value} {fz : Nat × Nat} {d : TypeDesc} (hg : w.heap[b]? = some (.cells C e fz)) (hu : P.underlying t = some d) (hd : d.isRow = true)
    (hi : (P.info? t).map (·.size) = some m) (hm : i + m ≤ C.size) :
    (loadVar t ⟨b, i, none⟩).run P w = .ok (.agg (C.extract i (i + m))) w := by
  have := run_loadVar_mid (P := P) w b i t (C.extract i (i + m)).toList d (fun j v hv => by
    rw [cell_of_row w b (i + j) C e fz hg]
    have hj : j < (C.extract i (i + m)).size := by
      rcases Nat.lt_or_ge j (C.extract i (i + m)).size with h | h
      · exact h
      · rw [List.getElem?_eq_none (by rw [Array.length_toList]; exact h)] at hv; cases hv
    rw [Array.getElem?_toList, Array.getElem?_extract] at hv
    split at hv
    · exact hv
    · cases hv) hu hd (by rw [hi]; simp; omega)
  rw [Array.toArray_toList] at this
  exact this
theorem run_loadW {b m : Nat} {t e : TypeId} {C : Array Value} {fz : Nat × Nat} {d : TypeDesc} (hg : w.heap[b]? = some (.cells C e fz)) (hu : P.underlying t = some d) (hd : d.isRow = true)
    (hi : (P.info? t).map (·.size) = some m) (hm : C.size = m) :
    (loadVar t ⟨b, 0, none⟩).run P w = .ok (.agg C) w := run_loadVar_row w b e t C fz d hg hu (by cases d <;> first | rfl | (simp [TypeDesc.isRow] at hd)) (by rw [hi, hm])

theorem x_load (st : St w0 D n F H a w) {t : TypeId} {x : Operand} {ad : Addr} {v : Value} {d : Nat} (ho : o.op = .load t x) (ha : evF F x = some (.pointer (some ad)))
    (hv : (loadVar t ad).run P w = .ok v w) (hg : o.guard = none) (hd : o.dst = some d) (hn : d < n)
    (h : ∀ a, St w0 D n ((d, v) :: F) H a w → wpList P ops Q rest a w) : wpList P ops Q (o :: rest) a w :=
  x_val hg (v := v) (w' := w) (by unfold execOp; simp only [ho, st.ev ha, Instr.loadAt, Instr.sureAddr, Sem.run_bind, Sem.run_pure, Result.andThen_ok, hv]) (by rw [hd]; exact h _ (st.put _ hn))

theorem setCell_putObj {b i : Nat} {C : Array Value} {e : TypeId} {fz : Nat × Nat} (hg : w.heap[b]? = some (.cells C e fz)) (v : Value) :
    w.setCell ⟨b, i, none⟩ v = World.putObj w b (.cells (C.setIfInBounds i v) e fz) := by
  unfold World.setCell World.putObj
  congr 1
  apply Array.ext_getElem?
  intro j
  rw [Array.getElem?_modify, Array.getElem?_setIfInBounds]
  by_cases h : b = j
  · subst h
    obtain ⟨hl, he⟩ := Array.getElem?_eq_some_iff.1 hg
    simp [hl, he]
  · simp [h]
theorem putObj_putObj {b : Nat} {x y : Obj} : World.putObj (World.putObj w b x) b y = World.putObj w b y := by
  unfold World.putObj; simp
theorem putObj_self {b : Nat} {x : Obj} (hg : w.heap[b]? = some x) : World.putObj w b x = w := by
  unfold World.putObj
  have : w.heap.setIfInBounds b x = w.heap := by
    apply Array.ext_getElem?
    intro j
    rw [Array.getElem?_setIfInBounds]
    by_cases h : b = j
    · subst h; rw [if_pos rfl, hg]; simp [lt_of_get hg]
    · simp [h]
  rw [this]

theorem run_store1 {b i : Nat} {t e : TypeId} {C : Array Value} {v : Value} (hg : w.heap[b]? = some (.cells C e (0, 0))) (hi : (P.info? t).map (·.size) = some 1) (hv : v.oneCell' = true) (hlt : i < C.size) :
    (storeVar t ⟨b, i, none⟩ v).run P w = .ok () (World.putObj w b (.cells (C.setIfInBounds i v) e (0, 0))) := by
  have hc : w.cell? ⟨b, i, none⟩ = some C[i] := by rw [cell_of_row w b i C e (0, 0) hg]; simp [hlt]
  have hf : w.frozen? ⟨b, i, none⟩ = false := by simp [World.frozen?, hg]
  have hcs : v.cells = #[v] := by cases v <;> simp_all [Value.cells, Value.oneCell']
  cases hq : P.info? t with
  | none => simp [hq] at hi
  | some inf =>
    have hs : inf.size = 1 := by simpa [hq] using hi
    have hadd : (⟨b, i, none⟩ : Addr).add 0 = ⟨b, i, none⟩ := rfl
    simp only [storeVar, sizeOf, typeInfo, hq, hs, hcs, Sem.run_bind, run_program, Sem.run_pure, Result.andThen_ok, storeCells, run_store P w _ v .plain hv, hc, hf, setCell_putObj hg, hadd]
    simp [storeCells, hc, hf, run_store P w _ v .plain hv, setCell_putObj hg]

theorem run_storeW {b : Nat} {t e : TypeId} {C C' : Array Value} (hg : w.heap[b]? = some (.cells C e (0, 0))) (hi : (P.info? t).map (·.size) = some C'.size) (ho : C.size = C'.size) (h1 : C'.all (·.oneCell') = true) :
    (storeVar t ⟨b, 0, none⟩ (.agg C')).run P w = .ok () (World.putObj w b (.cells C' e (0, 0))) := by
  rw [run_storeVar_row w b e t C C' hg hi ho h1]
  congr 1
  unfold World.setRow World.putObj
  congr 1
  apply Array.ext_getElem?
  intro j
  rw [Array.getElem?_modify, Array.getElem?_setIfInBounds]
  by_cases h : b = j
  · subst h
    obtain ⟨hl, he⟩ := Array.getElem?_eq_some_iff.1 hg
    simp [hl, he]
  · simp [h]

theorem keys_set (H : Hp) (i b : Nat) (ob o' : Obj) (h : H[i]? = some (b, ob)) : (H.set i (b, o')).map Prod.fst = H.map Prod.fst := by
  induction H generalizing i with
  | nil => simp at h
  | cons x xs ih =>
    cases i with
    | zero => simp at h; subst h; simp
    | succ i => simp at h; simp [ih i h]
theorem mem_set_cases (H : Hp) (i b : Nat) (ob o' : Obj) (h : H[i]? = some (b, ob)) (nd : (H.map Prod.fst).Nodup) (x : Nat × Obj) (hx : x ∈ H.set i (b, o')) : x = (b, o') ∨ (x ∈ H ∧ x.1 ≠ b) := by
  induction H generalizing i with
  | nil => simp at h
  | cons y ys ih =>
    simp only [List.map_cons, List.nodup_cons] at nd
    cases i with
    | zero =>
      simp at h; subst h
      simp at hx
      rcases hx with rfl | hx
      · exact .inl rfl
      · refine .inr ⟨List.mem_cons_of_mem _ hx, fun e => nd.1 ?_⟩
        have := List.mem_map_of_mem (f := Prod.fst) hx
        rw [e] at this; exact this
    | succ i =>
      simp at h
      simp at hx
      rcases hx with rfl | hx
      · refine .inr ⟨List.mem_cons_self, fun e => nd.1 ?_⟩
        have := List.mem_map_of_mem (f := Prod.fst) (List.mem_of_getElem? h)
        rw [← e] at this; exact this
      · rcases ih i h nd.2 hx with hh | ⟨hh, hne⟩
        · exact .inl hh
        · exact .inr ⟨List.mem_cons_of_mem _ hh, hne⟩
theorem St.putObj (st : St w0 D n F H a w) (i : Nat) {b : Nat} {ob : Obj} (h : H[i]? = some (b, ob)) (o' : Obj) : St w0 D n F (H.set i (b, o')) a (World.putObj w b o') where
  size := st.size
  dfr := st.dfr
  fr := st.fr
  hp := fun x hx => by
    rcases mem_set_cases H i b ob o' h st.nd x hx with rfl | ⟨hh, hne⟩
    · exact putObj_same (lt_of_get (st.at i h))
    · rw [putObj_other hne]; exact st.hp x hh
  own := fun x hx => by
    rcases mem_set_cases H i b ob o' h st.nd x hx with rfl | ⟨hh, _⟩
    · exact st.own (b, ob) (List.mem_of_getElem? h)
    · exact st.own x hh
  nd := by rw [keys_set H i b ob o' h]; exact st.nd
  keeps := st.keeps.putObj (st.own (b, ob) (List.mem_of_getElem? h)) o'

theorem x_store (st : St w0 D n F H a w) (i : Nat) {t : TypeId} {x y : Operand} {b off : Nat} {ob o' : Obj} {v : Value} (ho : o.op = .store t x y) (ha : evF F x = some (.pointer (some ⟨b, off, none⟩))) (hy : evF F y = some v)
    (hH : H[i]? = some (b, ob)) (hv : (storeVar t ⟨b, off, none⟩ v).run P w = .ok () (World.putObj w b o')) (hg : o.guard = none) (hd : o.dst = none)
    (h : ∀ a w, St w0 D n F (H.set i (b, o')) a w → wpList P ops Q rest a w) : wpList P ops Q (o :: rest) a w :=
  x_unit hg (w' := World.putObj w b o') (by unfold execOp; simp only [ho, st.ev ha, st.ev hy, Instr.storeAt, Instr.sureAddr, Sem.run_bind, Sem.run_pure, Result.andThen_ok, hv]) (by rw [hd]; exact h _ _ (st.putObj i hH o'))

theorem St.fresh (st : St w0 D n F H a w) {b : Nat} (hb : w.heap.size ≤ b) : b ∉ H.map Prod.fst := by
  intro hm
  obtain ⟨x, hx, rfl⟩ := List.mem_map.1 hm
  have := lt_of_get (st.hp x hx)
  omega
/-- A new block. -/
theorem St.push (st : St w0 D n F H a w) (ob : Obj) : St w0 D n F ((w.heap.size, ob) :: H) a (w.alloc ob) where
  size := st.size
  dfr := st.dfr
  fr := st.fr
  hp := fun x hx => by
    rcases List.mem_cons.1 hx with rfl | hx
    · show (w.heap.push ob)[w.heap.size]? = some ob
      simp
    · rw [Below.heap_alloc w ob x.1 (lt_of_get (st.hp x hx))]; exact st.hp x hx
  own := fun x hx => by
    rcases List.mem_cons.1 hx with rfl | hx
    · exact .inr st.keeps.size
    · exact st.own x hx
  nd := by
    simp only [List.map_cons, List.nodup_cons]
    exact ⟨st.fresh (Nat.le_refl _), st.nd⟩
  keeps := st.keeps.alloc ob

theorem x_alloc (st : St w0 D n F H a w) {t : TypeId} {z : Value} {d : Nat} (ho : o.op = .alloc t) (hz : (P.info? t).bind (·.zero) = some z) (hg : o.guard = none) (hd : o.dst = some d) (hn : d < n)
    (h : ∀ a w b, St w0 D n ((d, .pointer (some ⟨b, 0, none⟩)) :: F) ((b, .cells z.cells t (0, 0)) :: H) a w → wpList P ops Q rest a w) : wpList P ops Q (o :: rest) a w := by
  have hzv : (zeroValue t).run P w = .ok z w := by
    cases hq : P.info? t with
    | none => simp [hq] at hz
    | some inf => simp [hq] at hz; simp [zeroValue, typeInfo, hq, hz]
  refine x_val hg (v := .pointer (some ⟨w.heap.size, 0, none⟩)) (w' := w.alloc (.cells z.cells t (0, 0))) ?_ (by rw [hd]; exact h _ _ _ ((st.push _).put _ hn))
  unfold execOp
  simp only [ho, Instr.alloc, Sem.run_bind, hzv, Result.andThen_ok, newVar, newRow, run_newObj, Sem.run_pure]
  rfl
theorem x_box (st : St w0 D n F H a w) {t : TypeId} {x : Operand} {v : Value} {d : Nat} (ho : o.op = .box t x) (hx : evF F x = some v) (hg : o.guard = none) (hd : o.dst = some d) (hn : d < n)
    (h : ∀ a w b, St w0 D n ((d, .pointer (some ⟨b, 0, none⟩)) :: F) ((b, .cells v.cells t (0, 0)) :: H) a w → wpList P ops Q rest a w) : wpList P ops Q (o :: rest) a w := by
  refine x_val hg (v := .pointer (some ⟨w.heap.size, 0, none⟩)) (w' := w.alloc (.cells v.cells t (0, 0))) ?_ (by rw [hd]; exact h _ _ _ ((st.push _).put _ hn))
  unfold execOp
  simp only [ho, st.ev hx, Instr.box, Sem.run_bind, Result.andThen_ok, newVar, newRow, run_newObj, Sem.run_pure]
  rfl
end Go.Proofs.YtnkbhmonceiocaaDoor
