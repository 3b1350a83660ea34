/-
  Lists of ranges in memory: three whole numbers each. No program text stands in it.
-/
import Derived.Test.YtnkbhmonceiocaaDoorApp
namespace Go.Proofs.YtnkbhmonceiocaaDoor
open Go Go.RowKit
variable {P : Program} {w0 w1 : World} {D B : List Nat} {n : Nat} {F : Fr} {H : Hp} {a : Act} {w : World}
structure Sn where
  x : Int
  y : Int
  r : Int
deriving DecidableEq
def Sn.cells (s : Sn) : List Value := [.int .i64 s.x, .int .i64 s.y, .int .i64 s.r]
def flatS : List Sn → List Value
  | [] => []
  | s :: l => s.cells ++ flatS l
theorem flatS_len : ∀ (l : List Sn), (flatS l).length = l.length * 3
  | [] => rfl
  | s :: l => by simp [flatS, Sn.cells, flatS_len l]; omega
theorem flatS_app : ∀ (l k : List Sn), flatS (l ++ k) = flatS l ++ flatS k
  | [], k => rfl
  | s :: l, k => by simp [flatS, flatS_app l k]
theorem flatS_one : ∀ (l : List Sn), ∀ u ∈ flatS l, u.oneCell' = true
  | [], u, h => by simp [flatS] at h
  | s :: l, u, h => by
    simp only [flatS, List.mem_append] at h
    rcases h with h | h
    · simp [Sn.cells] at h
      rcases h with rfl | rfl | rfl <;> rfl
    · exact flatS_one l u h
theorem flatS_get : ∀ (l : List Sn) (i : Nat) (s : Sn), l[i]? = some s → (flatS l)[i * 3]? = some (.int .i64 s.x) ∧ (flatS l)[i * 3 + 1]? = some (.int .i64 s.y) ∧ (flatS l)[i * 3 + 2]? = some (.int .i64 s.r)
  | [], i, s, h => by simp at h
  | t :: l, 0, s, h => by
    simp at h; subst h
    simp [flatS, Sn.cells]
  | t :: l, i + 1, s, h => by
    simp at h
    have := flatS_get l i s h
    have e : t.cells.length = 3 := rfl
    unfold flatS
    refine ⟨?_, ?_, ?_⟩
    · rw [List.getElem?_append_right (by rw [e]; omega), e, show (i + 1) * 3 - 3 = i * 3 by omega]; exact this.1
    · rw [List.getElem?_append_right (by rw [e]; omega), e, show (i + 1) * 3 + 1 - 3 = i * 3 + 1 by omega]; exact this.2.1
    · rw [List.getElem?_append_right (by rw [e]; omega), e, show (i + 1) * 3 + 2 - 3 = i * 3 + 2 by omega]; exact this.2.2
theorem flatS_drop : ∀ (l : List Sn) (k : Nat), flatS (l.drop k) = (flatS l).drop (k * 3)
  | [], k => by simp [flatS]
  | s :: l, 0 => by simp
  | s :: l, k + 1 => by
    rw [List.drop_succ_cons, flatS_drop l k]
    have e : s.cells.length = 3 := rfl
    show _ = (s.cells ++ flatS l).drop ((k + 1) * 3)
    rw [List.drop_append, List.drop_of_length_le (l := s.cells) (by rw [e]; omega), e, show (k + 1) * 3 - 3 = k * 3 by omega]
    rfl
/-- From a place on, a row holds these. -/
def Holds (cur : Array Value) (off : Nat) (xs : List Value) : Prop := ∀ j u, xs[j]? = some u → cur[off + j]? = some u
theorem Cut.holds {cur : Array Value} {xs : List Value} (h : Cut cur xs) : Holds cur 0 xs := fun j u hj => by rw [Nat.zero_add]; exact h.get hj
theorem Holds.drop {cur : Array Value} {off k : Nat} {xs : List Value} (h : Holds cur off xs) : Holds cur (off + k) (xs.drop k) := fun j u hj => by
  rw [List.getElem?_drop] at hj
  rw [Nat.add_assoc]; exact h _ u hj
theorem Holds.cell {cur : Array Value} {off b : Nat} {xs : List Value} {e : TypeId} (h : Holds cur off xs) (hb : w.heap[b]? = some (.cells cur e (0, 0))) : ∀ j u, xs[j]? = some u → w.cell? ((⟨b, off, none⟩ : Addr).add j) = some u := fun j u hj => by
  rw [addr_add]
  simp [World.cell?, hb, h j u hj]
theorem hnewC {C : Array Value} {b : Nat} {e : TypeId} (hb : w.heap[b]? = some (.cells C e (0, 0))) : ∀ j u, C.toList[j]? = some u → w.cell? ((⟨b, 0, none⟩ : Addr).add j) = some u := fun j u hj => by
  rw [addr_add, Nat.zero_add]
  rw [Array.getElem?_toList] at hj
  simp [World.cell?, hb, hj]
/-- A row of a slice's row that is loaded. -/
theorem run_loadL {b i m : Nat} {t e : TypeId} {C : Array Value} {fz : Nat × Nat} {d : TypeDesc} (vs : List Value) (hg : w.heap[b]? = some (.cells C e fz)) (hu : P.underlying t = some d) (hd : d.isRow = true)
    (hi : (P.info? t).map (·.size) = some m) (hm : vs.length = m) (hv : ∀ j u, vs[j]? = some u → C[i + j]? = some u) :
    (loadVar t ⟨b, i, none⟩).run P w = .ok (.agg vs.toArray) w :=
  run_loadVar_mid (P := P) w b i t vs d (fun j v hv' => by rw [cell_of_row w b (i + j) C e fz hg]; exact hv j v hv') hu hd (by rw [hi, hm])
/-- The last seven, and one more. -/
def keepS (l : List Sn) (s : Sn) : List Sn := l.drop (l.length - 7) ++ [s]
theorem keepS_len (l : List Sn) (s : Sn) : (keepS l s).length = l.length - (l.length - 7) + 1 := by simp [keepS]
theorem keepS_nil (s : Sn) : keepS [] s = [s] := rfl
end Go.Proofs.YtnkbhmonceiocaaDoor
