/-
  A small logic for walks, over any program: the frame as a list of slots with their values, the call's own memory as a list of blocks, what was there before the call as it was. No program text stands in it.
-/
import Derived.WalkKit
import Derived.Orders
import Derived.Below
import Derived.Laws.Rows
import Derived.Laws.Tables
import Derived.Deep.MidRow
namespace Go.Proofs.YtnkbhmonceiocaaDoor
open Go Go.RowKit

/-- A later world: only the blocks of D, of those that were there, may have changed. -/
structure Keeps (D : List Nat) (w w' : World) : Prop where
  os : w'.os = w.os
  tape : w'.tape = w.tape
  output : w'.output = w.output
  size : w.heap.size ≤ w'.heap.size
  blk : ∀ b, b < w.heap.size → b ∉ D → w'.heap[b]? = w.heap[b]?

theorem Keeps.refl (D : List Nat) (w : World) : Keeps D w w := ⟨rfl, rfl, rfl, Nat.le_refl _, fun _ _ _ => rfl⟩
theorem Keeps.trans {D : List Nat} {a b c : World} (h : Keeps D a b) (k : Keeps D b c) : Keeps D a c :=
  ⟨k.os.trans h.os, k.tape.trans h.tape, k.output.trans h.output, Nat.le_trans h.size k.size,
    fun i hi hd => (k.blk i (Nat.lt_of_lt_of_le hi h.size) hd).trans (h.blk i hi hd)⟩
theorem Keeps.weaken {D D' : List Nat} {a b : World} (h : Keeps D a b) (hd : ∀ x, x ∈ D → x ∈ D') : Keeps D' a b :=
  ⟨h.os, h.tape, h.output, h.size, fun i hi hn => h.blk i hi fun hx => hn (hd i hx)⟩
theorem Keeps.nil {D : List Nat} {a b : World} (h : Keeps [] a b) : Keeps D a b := h.weaken (by simp)
theorem Keeps.below {a b : World} (h : Keeps [] a b) : Below a.heap.size a b := ⟨h.os, h.tape, h.output, h.size, fun k hk => h.blk k hk (by simp)⟩
theorem Keeps.of_below {a b : World} (h : Below a.heap.size a b) : Keeps [] a b := ⟨h.os, h.tape, h.output, h.size, fun k hk _ => h.block k hk⟩
theorem Keeps.get {D : List Nat} {a b : World} (h : Keeps D a b) {i : Nat} {o : Obj} (hi : a.heap[i]? = some o) (hd : i ∉ D) : b.heap[i]? = some o := by
  have hl : i < a.heap.size := (Array.getElem?_eq_some_iff.1 hi).1
  rw [h.blk i hl hd, hi]
/-- What a call leaves where it changed nothing that a caller of its own owned. -/
theorem Keeps.trans' {D : List Nat} {a b c : World} (h : Keeps D a b) (k : Keeps [] b c) : Keeps D a c := h.trans k.nil

theorem lt_of_get {w : World} {i : Nat} {o : Obj} (hi : w.heap[i]? = some o) : i < w.heap.size := (Array.getElem?_eq_some_iff.1 hi).1

theorem Keeps.alloc {D : List Nat} {a w : World} (h : Keeps D a w) (o : Obj) : Keeps D a (w.alloc o) :=
  ⟨h.os, h.tape, h.output, Nat.le_trans h.size (by rw [World.size_alloc]; omega), fun i hi hd => by
    rw [Below.heap_alloc w o i (Nat.lt_of_lt_of_le hi h.size)]; exact h.blk i hi hd⟩
theorem Keeps.drew {D : List Nat} {a w : World} (h : Keeps D a w) : Keeps D a { w with drawn := w.drawn + 1 } := ⟨h.os, h.tape, h.output, h.size, h.blk⟩

/-- A world with another object in a block. -/
def World.putObj (w : World) (b : Nat) (o : Obj) : World := { w with heap := w.heap.setIfInBounds b o }
theorem putObj_same {w : World} {b : Nat} {o : Obj} (hb : b < w.heap.size) : (World.putObj w b o).heap[b]? = some o := by
  simp [World.putObj, hb]
theorem putObj_other {w : World} {b i : Nat} {o : Obj} (h : i ≠ b) : (World.putObj w b o).heap[i]? = w.heap[i]? := by
  simp [World.putObj, Array.getElem?_setIfInBounds, Ne.symm h]
theorem putObj_size {w : World} {b : Nat} {o : Obj} : (World.putObj w b o).heap.size = w.heap.size := by simp [World.putObj]
theorem Keeps.putObj {D : List Nat} {a w : World} (h : Keeps D a w) {b : Nat} (hb : b ∈ D ∨ a.heap.size ≤ b) (o : Obj) : Keeps D a (World.putObj w b o) :=
  ⟨h.os, h.tape, h.output, by rw [putObj_size]; exact h.size, fun i hi hd => by
    rw [putObj_other (fun e => by subst e; rcases hb with hb | hb; exact hd hb; omega)]; exact h.blk i hi hd⟩

/-! ### The state -/
abbrev Fr := List (Nat × Value)
abbrev Hp := List (Nat × Obj)

structure St (w0 : World) (D : List Nat) (n : Nat) (F : Fr) (H : Hp) (a : Act) (w : World) : Prop where
  size : a.tmps.size = n
  dfr : a.defers = []
  fr : ∀ t v, F.lookup t = some v → a.tmps[t]? = some v
  hp : ∀ h, h ∈ H → w.heap[h.1]? = some h.2
  own : ∀ h, h ∈ H → h.1 ∈ D ∨ w0.heap.size ≤ h.1
  nd : (H.map Prod.fst).Nodup
  keeps : Keeps D w0 w

variable {P : Program} {w0 : World} {D : List Nat} {n : Nat} {F : Fr} {H : Hp} {a : Act} {w : World}

theorem lookup_cons (d t : Nat) (v : Value) (F : Fr) : List.lookup t ((d, v) :: F) = if t = d then some v else F.lookup t := by
  by_cases h : t = d
  · subst h; simp
  · simp only [List.lookup, h, if_false]
    have : (t == d) = false := by simpa using h
    rw [this]

theorem St.put (st : St w0 D n F H a w) {d : Nat} (v : Value) (hd : d < n) : St w0 D n ((d, v) :: F) H (a.put (some d) v) w where
  size := by simp [Act.put, st.size]
  dfr := st.dfr
  fr := by
    intro t u hu
    rw [lookup_cons] at hu
    show (a.tmps.setIfInBounds d v)[t]? = some u
    by_cases h : t = d
    · subst h; simp at hu; subst hu; simp [st.size, hd]
    · rw [if_neg h] at hu
      rw [Array.getElem?_setIfInBounds, if_neg (fun e => h e.symm)]
      exact st.fr t u hu
  hp := st.hp
  own := st.own
  nd := st.nd
  keeps := st.keeps
theorem St.putNone (st : St w0 D n F H a w) (v : Value) : St w0 D n F H (a.put none v) w := st
theorem St.frame {F' : Fr} (st : St w0 D n F H a w) (h : ∀ t v, F'.lookup t = some v → F.lookup t = some v) : St w0 D n F' H a w :=
  { st with fr := fun t v ht => st.fr t v (h t v ht) }
/-- Only these slots are still of use. -/
def pickFr (F : Fr) : List Nat → Fr
  | [] => []
  | t :: ts => match F.lookup t with
    | some v => (t, v) :: pickFr F ts
    | none => pickFr F ts
theorem pickFr_sub (F : Fr) : ∀ (ts : List Nat) (t : Nat) (v : Value), (pickFr F ts).lookup t = some v → F.lookup t = some v
  | [], t, v, h => by simp [pickFr] at h
  | x :: ts, t, v, h => by
    unfold pickFr at h
    cases hx : F.lookup x with
    | none => rw [hx] at h; exact pickFr_sub F ts t v h
    | some u =>
      rw [hx] at h
      simp only [] at h
      rw [lookup_cons] at h
      by_cases e : t = x
      · subst e; rw [if_pos rfl] at h; rw [hx]; exact h
      · rw [if_neg e] at h; exact pickFr_sub F ts t v h
theorem St.pick (st : St w0 D n F H a w) (ts : List Nat) : St w0 D n (pickFr F ts) H a w := st.frame (pickFr_sub F ts)
/-- The same, told outright; the kernel reckons. -/
theorem St.pickTo {F' : Fr} (st : St w0 D n F H a w) (ts : List Nat) (h : pickFr F ts = F') : St w0 D n F' H a w := h ▸ st.pick ts
theorem St.cast {F' : Fr} {H' : Hp} (st : St w0 D n F H a w) (hF : F = F') (hH : H = H') : St w0 D n F' H' a w := by subst hF; subst hH; exact st
theorem St.heap {H' : Hp} (st : St w0 D n F H a w) (h : List.Sublist H' H) : St w0 D n F H' a w :=
  { st with hp := fun x hx => st.hp x (h.subset hx), own := fun x hx => st.own x (h.subset hx), nd := (h.map _).nodup st.nd }

/-! ### Operands -/
def evF (F : Fr) : Operand → Option Value
  | .tmp t => F.lookup t
  | .const v => some v
  | .global g => some (.pointer (some ⟨g, 0, none⟩))
  | .func f => some (.func (.func f) #[] #[])
theorem St.ev (st : St w0 D n F H a w) {x : Operand} {v : Value} (h : evF F x = some v) : a.eval x = v := by
  cases x with
  | tmp t =>
    have := st.fr t v h
    show a.tmps.getD t undef = v
    rw [Array.getD_eq_getD_getElem?, this]; rfl
  | const u => simp [evF] at h; exact h
  | global g => simp [evF] at h; exact h
  | func f => simp [evF] at h; exact h

/-! ### One operation of a list -/
variable {ops : Array Oper} {Q : Exit → Act → World → Prop} {rest : List Oper} {o : Oper}
theorem x_val {v : Value} {w' : World} (hg : o.guard = none) (hr : (execOp a.eval o).run P w = .ok (.value v) w')
    (h : wpList P ops Q rest (a.put o.dst v) w') : wpList P ops Q (o :: rest) a w := by
  unfold wpList
  rw [if_pos (by simp [Region.wanted, hg])]
  refine .inl ?_
  unfold Oper.wp
  rw [hr]
  exact h
theorem x_unit {w' : World} (hg : o.guard = none) (hr : (execOp a.eval o).run P w = .ok .skip w')
    (h : wpList P ops Q rest (a.put o.dst undef) w') : wpList P ops Q (o :: rest) a w := by
  unfold wpList
  rw [if_pos (by simp [Region.wanted, hg])]
  refine .inl ?_
  unfold Oper.wp
  rw [hr]
  exact h
/-- A guarded operation: the guard's operation has yielded a bool. -/
theorem St.yields (st : St w0 D n F H a w) {j d : Nat} {b : Bool} (hj : (ops[j]?).bind (·.dst) = some d) (hb : F.lookup d = some (.bool b)) : yielded ops a.tmps j = some b := by
  have hd := st.fr d _ hb
  unfold yielded
  cases ho : ops[j]? with
  | none => rw [ho] at hj; simp at hj
  | some o =>
    rw [ho] at hj
    simp only [Option.bind_some] at hj
    simp [hj, hd]
theorem x_unguard (st : St w0 D n F H a w) {j d : Nat} {b : Bool} (hg : o.guard = some (j, b)) (hj : (ops[j]?).bind (·.dst) = some d) (hb : F.lookup d = some (.bool b))
    (h : wpList P ops Q ({ o with guard := none } :: rest) a w) : wpList P ops Q (o :: rest) a w := by
  unfold wpList at h ⊢
  rw [if_pos (by simp [Region.wanted])] at h
  rw [if_pos (by simp [Region.wanted, hg, st.yields hj hb])]
  exact h
theorem x_skip (st : St w0 D n F H a w) {j d t : Nat} {b c : Bool} (hg : o.guard = some (j, b)) (hj : (ops[j]?).bind (·.dst) = some d) (hb : F.lookup d = some (.bool c)) (hc : c ≠ b)
    (ht : o.dst = some t) (hn : t < n)
    (h : ∀ a, St w0 D n ((t, undef) :: F) H a w → wpList P ops Q rest a w) : wpList P ops Q (o :: rest) a w := by
  unfold wpList
  rw [if_neg (by simp [Region.wanted, hg, st.yields hj hb, hc]), ht]
  exact h _ (st.put _ hn)
end Go.Proofs.YtnkbhmonceiocaaDoor
