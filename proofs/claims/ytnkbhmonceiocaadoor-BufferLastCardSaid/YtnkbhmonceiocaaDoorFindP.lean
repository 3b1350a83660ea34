/-
  What buffer.third and buffer.Find answer, and parts of a slice of ranges. No program text stands in it.
-/
import Derived.Test.YtnkbhmonceiocaaDoorSeenP
import Derived.Test.YtnkbhmonceiocaaDoorCircP
namespace Go.Proofs.YtnkbhmonceiocaaDoor
open Go Go.RowKit
variable {P : Program} {w0 w1 : World} {D B : List Nat} {n : Nat} {F : Fr} {H : Hp} {a : Act} {w : World} {Q : Exit → Act → World → Prop}
theorem Wt.three {l : List Oper} {f k j m : Nat} {rem r s t : List Nat} {o p q : Oper} (hr : rdy l rem = [k, j, m]) (ho : l[k]? = some o) (hp : l[j]? = some p) (hq : l[m]? = some q) (he : rem.erase k = r) (hf : rem.erase j = s) (hg : rem.erase m = t)
    (h : wpList P l.toArray (QK (Wt P Q l f r) Q) [o] a w) (h2 : wpList P l.toArray (QK (Wt P Q l f s) Q) [p] a w) (h3 : wpList P l.toArray (QK (Wt P Q l f t) Q) [q] a w) : Wt P Q l (f + 1) rem a w := by
  subst he; subst hf; subst hg
  refine ⟨fun e => (by rw [e] at hr; cases hr), fun i hi => ?_⟩
  rw [hr] at hi
  rcases List.mem_cons.1 hi with rfl | hi
  · exact wpOp_of_list (by simpa using ho) h
  · rcases List.mem_cons.1 hi with rfl | hi
    · exact wpOp_of_list (by simpa using hp) h2
    · rw [List.mem_singleton] at hi
      subst hi
      exact wpOp_of_list (by simpa using hq) h3
def sn (l : List Sn) (i : Nat) : Sn := l.getD i ⟨0, 0, 0⟩
theorem sn_get {l : List Sn} {i : Nat} (hi : i < l.length) : l[i]? = some (sn l i) := by
  unfold sn
  rw [List.getD_eq_getElem?_getD, List.getElem?_eq_getElem hi]
  rfl
section
variable {C : Array Value} {off i : Nat} {l : List Sn}
theorem hold_x (h : Holds C off (flatS l)) (hi : i < l.length) : C[off + i * 3]? = some (.int .i64 (sn l i).x) := h _ _ (flatS_get l i _ (sn_get hi)).1
theorem hold_y (h : Holds C off (flatS l)) (hi : i < l.length) : C[off + i * 3 + 1]? = some (.int .i64 (sn l i).y) := by have := h _ _ (flatS_get l i _ (sn_get hi)).2.1; rw [← Nat.add_assoc] at this; exact this
theorem hold_r (h : Holds C off (flatS l)) (hi : i < l.length) : C[off + i * 3 + 2]? = some (.int .i64 (sn l i).r) := by have := h _ _ (flatS_get l i _ (sn_get hi)).2.2; rw [← Nat.add_assoc] at this; exact this
theorem hold_p (h : Holds C off (flatS l)) (hi : i < l.length) : ∀ j u, [Value.int .i64 (sn l i).x, .int .i64 (sn l i).y][j]? = some u → C[off + i * 3 + 0 + j]? = some u
  | 0, u, e => by cases e; exact hold_x h hi
  | 1, u, e => by cases e; exact hold_y h hi
  | j + 2, u, e => by simp at e
theorem hold_s (h : Holds C off (flatS l)) (hi : i < l.length) : ∀ j u, [Value.int .i64 (sn l i).x, .int .i64 (sn l i).y, .int .i64 (sn l i).r][j]? = some u → C[off + i * 3 + j]? = some u
  | 0, u, e => by cases e; exact hold_x h hi
  | 1, u, e => by cases e; exact hold_y h hi
  | 2, u, e => by cases e; exact hold_r h hi
  | j + 3, u, e => by simp at e
theorem cut_p (h : Cut C (flatS l)) (hi : i < l.length) : ∀ j u, [Value.int .i64 (sn l i).x, .int .i64 (sn l i).y][j]? = some u → C[i * 3 + 0 + j]? = some u := fun j u e => by have := hold_p h.holds hi j u e; rw [Nat.zero_add] at this; exact this
theorem cut_s (h : Cut C (flatS l)) (hi : i < l.length) : ∀ j u, [Value.int .i64 (sn l i).x, .int .i64 (sn l i).y, .int .i64 (sn l i).r][j]? = some u → C[i * 3 + j]? = some u := fun j u e => by have := hold_s h.holds hi j u e; rw [Nat.zero_add] at this; exact this
theorem cut_r (h : Cut C (flatS l)) (hi : i < l.length) : C[i * 3 + 2]? = some (.int .i64 (sn l i).r) := by have := hold_r h.holds hi; rw [Nat.zero_add] at this; exact this
end
theorem first_at {α : Type} {f : Nat → Option α} {n k : Nat} {v : α} (h : ∀ q, q < k → f q = none) (hk : k < n) (hv : f k = some v) : (List.range n).findSome? f = some v := by
  obtain ⟨m, rfl⟩ : ∃ m, n = k + (m + 1) := ⟨n - k - 1, by omega⟩
  rw [List.range_add, List.findSome?_append, List.findSome?_eq_none_iff.2 (fun x hx => h x (List.mem_range.1 hx)), List.range_succ_eq_map]
  simp [hv]
theorem first_no {α : Type} {f : Nat → Option α} {n : Nat} (h : ∀ q, q < n → f q = none) : (List.range n).findSome? f = none := List.findSome?_eq_none_iff.2 (fun x hx => h x (List.mem_range.1 hx))
section
variable (l : List Sn) (i j : Nat) (base near : Int)
def metE : Int := meetE (sn l i).x (sn l i).y (sn l i).r (sn l j).x (sn l j).y (sn l j).r base
def met1 : Pl := mP1 (sn l i).x (sn l i).y (sn l i).r (sn l j).x (sn l j).y (sn l j).r
def met2 : Pl := mP2 (sn l i).x (sn l i).y (sn l i).r (sn l j).x (sn l j).y (sn l j).r
def kE (k : Nat) : Int := pickE (met1 l i j).x (met1 l i j).y (met2 l i j).x (met2 l i j).y (sn l k).x (sn l k).y (sn l k).r near
def kA (k : Nat) : Bool := pickA (met1 l i j).x (met1 l i j).y (met2 l i j).x (met2 l i j).y (sn l k).x (sn l k).y (sn l k).r near
/-- What the k-th range picks. -/
def kF (k : Nat) : Option (Int × Int) :=
  if k = i ∨ k = j then none else if kE l i j near k = 0 then some (bif kA l i j near k then (met1 l i j).x else (met2 l i j).x, bif kA l i j near k then (met1 l i j).y else (met2 l i j).y) else none
def thirdF : Option (Int × Int) := if metE l i j base = 0 then (List.range l.length).findSome? (kF l i j near) else none
def rowF : Option (Int × Int) := (List.range l.length).findSome? fun j => if i < j then thirdF l i j base near else none
def findF : Option (Int × Int) := (List.range l.length).findSome? fun i => rowF l i base near
end
theorem kF_eq {l : List Sn} {i j k : Nat} {near : Int} (h : k = i ∨ k = j) : kF l i j near k = none := if_pos h
theorem kF_no {l : List Sn} {i j k : Nat} {near : Int} (h : kE l i j near k ≠ 0) : kF l i j near k = none := by
  simp [kF, h]
theorem kF_ok {l : List Sn} {i j k : Nat} {near : Int} (h : ¬ (k = i ∨ k = j)) (h2 : kE l i j near k = 0) : kF l i j near k = some (bif kA l i j near k then (met1 l i j).x else (met2 l i j).x, bif kA l i j near k then (met1 l i j).y else (met2 l i j).y) := by
  unfold kF
  rw [if_neg h, if_pos h2]
theorem kE_three (l : List Sn) (i j : Nat) (near : Int) (k : Nat) : kE l i j near k = 0 ∨ kE l i j near k = 27 ∨ kE l i j near k = 34 := by
  unfold kE pickE
  repeat' split
  all_goals simp
/-- The number of Find's error; 0: none. -/
def findE (l : List Sn) (base near : Int) : Int := if l.length > 8 then 23 else match findF l base near with
  | some _ => 0
  | none => 34
def findX (l : List Sn) (base near : Int) : Int × Int := if findE l base near = 0 then (findF l base near).getD (0, 0) else (0, 0)
section
variable {l : List Sn} {base near : Int}
theorem findE_23 (h : l.length > 8) : findE l base near = 23 := if_pos h
theorem findE_34 (h : ¬ l.length > 8) (h2 : findF l base near = none) : findE l base near = 34 := by unfold findE; rw [if_neg h, h2]
theorem findE_0 {p : Int × Int} (h : ¬ l.length > 8) (h2 : findF l base near = some p) : findE l base near = 0 := by unfold findE; rw [if_neg h, h2]
theorem findX_0 {p : Int × Int} (h : ¬ l.length > 8) (h2 : findF l base near = some p) : findX l base near = p := by unfold findX; rw [if_pos (findE_0 h h2), h2]; rfl
theorem findX_no {e : Int} (h : findE l base near = e) (h2 : e ≠ 0) : findX l base near = (0, 0) := if_neg (by rw [h]; exact h2)
theorem findF_some {i j : Nat} {p : Int × Int} (hi : ∀ q, q < i → rowF l q base near = none) (hj : ∀ q, q < j → (if i < q then thirdF l i q base near else none) = none) (hij : i < j) (hjn : j < l.length) (h : thirdF l i j base near = some p) : findF l base near = some p :=
  first_at hi (by omega) (first_at hj hjn ((if_pos hij).trans h))
end
/-- What an error of a call is, where it alone counts whether there is one. -/
def ErrU (tf : Nat) (e : Int) (u : Value) : Prop := (e = 0 ∧ u = .nilIface) ∨ (e ≠ 0 ∧ ∃ b, u = .iface tf (.pointer (some ⟨b, 0, none⟩)))
/-! ### The last ranges of a way; cells that are known one by one -/
theorem run_loadC {t : TypeId} {d : TypeDesc} {v : Value} {b i : Nat} (hc : w.cell? ⟨b, i, none⟩ = some v) (hu : P.underlying t = some d) (hd : d.isRow = false) : (loadVar t ⟨b, i, none⟩).run P w = .ok v w := by
  have hagg : (isAgg t).run P w = .ok false w := by
    unfold isAgg
    rw [Sem.run_bind, run_underlying hu w]
    cases d <;> simp_all
  simp [loadVar, Sem.run_bind, hagg, hc]
theorem Keeps.cell {a b : World} {g i : Nat} {v : Value} (h : Keeps [] a b) (hc : a.cell? ⟨g, i, none⟩ = some v) : b.cell? ⟨g, i, none⟩ = some v := by
  unfold World.cell? at *
  simp only [] at *
  cases h0 : a.heap[g]? with
  | none => rw [h0] at hc; cases hc
  | some ob => rw [h.get h0 (by simp)]; rw [h0] at hc; exact hc
def seqS (f : Nat → Int) (i : Nat) : List Sn := (List.range i).map fun k => ⟨((k : Nat) : Int), 0, f k⟩
def lastS (f : Nat → Int) (i : Nat) : List Sn := (seqS f i).drop (i - 8)
theorem seqS_len (f : Nat → Int) (i : Nat) : (seqS f i).length = i := by simp [seqS]
theorem lastS_len (f : Nat → Int) (i : Nat) : (lastS f i).length = min i 8 := by simp [lastS, seqS_len]; omega
theorem keep_last (f : Nat → Int) (i : Nat) : keepS (lastS f i) ⟨((i : Nat) : Int), 0, f i⟩ = lastS f (i + 1) := by
  unfold keepS
  rw [lastS_len]
  unfold lastS
  have h1 : seqS f (i + 1) = seqS f i ++ [⟨((i : Nat) : Int), 0, f i⟩] := by simp [seqS, List.range_succ]
  rw [h1, List.drop_drop, List.drop_append_of_le_length (by rw [seqS_len]; omega)]
  congr 2
  omega
theorem sn_last {f : Nat → Int} {n k : Nat} (h : k < min n 8) : sn (lastS f n) k = ⟨((n - min n 8 + k : Nat) : Int), 0, f (n - min n 8 + k)⟩ := by
  have e : (lastS f n)[k]? = some ⟨((n - min n 8 + k : Nat) : Int), 0, f (n - min n 8 + k)⟩ := by
    unfold lastS seqS
    rw [List.getElem?_drop, List.getElem?_map, List.getElem?_range (by omega)]
    have e2 : n - 8 + k = n - min n 8 + k := by omega
    rw [e2]
    rfl
  have h2 := sn_get (l := lastS f n) (i := k) (by rw [lastS_len]; exact h)
  rw [e] at h2
  exact (Option.some.inj h2).symm
end Go.Proofs.YtnkbhmonceiocaaDoor
