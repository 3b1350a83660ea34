/-
  Rows of whole numbers with a sign (int64) in memory, told by a function of the place. No program text stands in it.
-/
import Derived.Test.YtnkbhmonceiocaaDoorRun2
namespace Go.Proofs.YtnkbhmonceiocaaDoor
open Go Go.RowKit
def AI (n : Nat) (g : Nat → Int) : Array Value := ((List.range n).map fun i => Value.int .i64 (g i)).toArray
theorem AI_size (n : Nat) (g : Nat → Int) : (AI n g).size = n := by simp [AI]
theorem AI_get {n : Nat} {g : Nat → Int} {k : Nat} (h : k < n) : (AI n g)[k]? = some (.int .i64 (g k)) := by simp [AI, h]
theorem AI_congr {n : Nat} {g g' : Nat → Int} (h : ∀ i, i < n → g i = g' i) : AI n g = AI n g' := by
  unfold AI
  congr 1
  apply List.map_congr_left
  intro i hi
  rw [h i (List.mem_range.1 hi)]
def updI (g : Nat → Int) (k : Nat) (v : Int) : Nat → Int := fun i => if i = k then v else g i
theorem updI_same (g : Nat → Int) (k : Nat) (v : Int) : updI g k v k = v := by simp [updI]
theorem updI_ne {g : Nat → Int} {k i : Nat} {v : Int} (h : i ≠ k) : updI g k v i = g i := by simp [updI, h]
theorem AI_set {n : Nat} {g : Nat → Int} {k : Nat} {v : Int} : (AI n g).setIfInBounds k (.int .i64 v) = AI n (updI g k v) := by
  apply Array.ext_getElem?
  intro i
  rw [Array.getElem?_setIfInBounds]
  by_cases h : i < n
  · rw [AI_get h]
    by_cases e : k = i
    · subst e; rw [AI_get h, updI_same]; simp [AI_size, h]
    · rw [if_neg e, AI_get h, updI_ne (fun x => e x.symm)]
  · have h1 : (AI n (updI g k v))[i]? = none := Array.getElem?_eq_none (by rw [AI_size]; omega)
    have h2 : (AI n g)[i]? = none := Array.getElem?_eq_none (by rw [AI_size]; omega)
    rw [h1, h2]
    by_cases e : k = i
    · subst e; simp [AI_size, h]
    · simp [e]
theorem AI_one (n : Nat) (g : Nat → Int) : (AI n g).all (·.oneCell') = true := by
  unfold AI
  simp [Value.oneCell']
theorem made_i64 (n : Nat) : madeCells (Value.int .i64 0).cells (n * 1) = AI n (fun _ => 0) := by
  rw [Nat.mul_one]
  apply Array.ext_getElem?
  intro i
  by_cases hi : i < n
  · rw [AI_get hi]
    simp only [madeCells, Array.getElem?_map]
    rw [Array.getElem?_eq_getElem (by simpa using hi)]
    simp only [Option.map_some, Array.getElem_range]
    have h1 : i % (Value.int .i64 0).cells.size = 0 := Nat.mod_one i
    rw [h1]; rfl
  · rw [Array.getElem?_eq_none (by rw [size_madeCells]; omega), Array.getElem?_eq_none (by rw [AI_size]; omega)]
/-- The row, out of a list. -/
def lget (l : List Int) (i : Nat) : Int := l.getD i 0
theorem AI_list (l : List Int) : (l.map fun x => Value.int .i64 x).toArray = AI l.length (lget l) := by
  apply Array.ext_getElem?
  intro i
  by_cases hi : i < l.length
  · rw [AI_get hi]
    simp [lget, hi]
  · rw [Array.getElem?_eq_none (by simp; omega), Array.getElem?_eq_none (by rw [AI_size]; omega)]
end Go.Proofs.YtnkbhmonceiocaaDoor
