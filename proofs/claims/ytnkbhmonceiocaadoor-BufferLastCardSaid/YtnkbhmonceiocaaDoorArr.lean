/-
  Rows of numbers in memory, told by a function of the place; numbers that do not go round. No program text stands in it.
-/
import Derived.Test.YtnkbhmonceiocaaDoorObs
namespace Go.Proofs.YtnkbhmonceiocaaDoor
open Go Go.RowKit
variable {P : Program} {w : World}

/-- n numbers of 64 bits without a sign. -/
def AF (n : Nat) (g : Nat → Nat) : Array Value := ((List.range n).map fun i => Value.int .u64 (g i : Nat)).toArray
theorem AF_size (n : Nat) (g : Nat → Nat) : (AF n g).size = n := by simp [AF]
theorem AF_get {n : Nat} {g : Nat → Nat} {k : Nat} (h : k < n) : (AF n g)[k]? = some (.int .u64 (g k : Nat)) := by simp [AF, h]
theorem AF_congr {n : Nat} {g g' : Nat → Nat} (h : ∀ i, i < n → g i = g' i) : AF n g = AF n g' := by
  unfold AF
  congr 1
  apply List.map_congr_left
  intro i hi
  rw [h i (List.mem_range.1 hi)]
def upd (g : Nat → Nat) (k v : Nat) : Nat → Nat := fun i => if i = k then v else g i
theorem upd_same (g : Nat → Nat) (k v : Nat) : upd g k v k = v := by simp [upd]
theorem upd_ne {g : Nat → Nat} {k v i : Nat} (h : i ≠ k) : upd g k v i = g i := by simp [upd, h]
theorem AF_set {n : Nat} {g : Nat → Nat} {k v : Nat} : (AF n g).setIfInBounds k (.int .u64 (v : Nat)) = AF n (upd g k v) := by
  apply Array.ext_getElem?
  intro i
  rw [Array.getElem?_setIfInBounds]
  by_cases h : i < n
  · rw [AF_get h]
    by_cases e : k = i
    · subst e; rw [AF_get h, upd_same]; simp [AF_size, h]
    · rw [if_neg e, AF_get h, upd_ne (fun x => e x.symm)]
  · have h1 : (AF n (upd g k v))[i]? = none := Array.getElem?_eq_none (by rw [AF_size]; omega)
    have h2 : (AF n g)[i]? = none := Array.getElem?_eq_none (by rw [AF_size]; omega)
    rw [h1, h2]
    by_cases e : k = i
    · subst e; simp [AF_size, h]
    · simp [e]
theorem AF_one (n : Nat) (g : Nat → Nat) : (AF n g).all (·.oneCell') = true := by
  unfold AF
  simp [Value.oneCell']
theorem AF_zero16 : (#[.int .u64 0, .int .u64 0, .int .u64 0, .int .u64 0, .int .u64 0, .int .u64 0, .int .u64 0, .int .u64 0, .int .u64 0, .int .u64 0, .int .u64 0, .int .u64 0, .int .u64 0, .int .u64 0, .int .u64 0, .int .u64 0] : Array Value) = AF 16 (fun _ => 0) := rfl
theorem AF_zero17 : (#[.int .u64 0, .int .u64 0, .int .u64 0, .int .u64 0, .int .u64 0, .int .u64 0, .int .u64 0, .int .u64 0, .int .u64 0, .int .u64 0, .int .u64 0, .int .u64 0, .int .u64 0, .int .u64 0, .int .u64 0, .int .u64 0, .int .u64 0] : Array Value) = AF 17 (fun _ => 0) := rfl
theorem AF_extract {n m : Nat} {g : Nat → Nat} (h : m ≤ n) : (AF n g).extract 0 m = AF m g := by
  apply Array.ext_getElem?
  intro i
  rw [Array.getElem?_extract]
  by_cases hi : i < m
  · have : i < min m (AF n g).size - 0 := by rw [AF_size]; omega
    rw [if_pos (by omega), Nat.zero_add, AF_get (by omega), AF_get hi]
  · rw [if_neg (by rw [AF_size]; omega)]
    exact (Array.getElem?_eq_none (by rw [AF_size]; omega)).symm

theorem run_store1' {b i : Nat} {t e : TypeId} {C C' : Array Value} {v : Value} (hg : w.heap[b]? = some (.cells C e (0, 0))) (hi : (P.info? t).map (·.size) = some 1) (hv : v.oneCell' = true) (hlt : i < C.size) (hC : C.setIfInBounds i v = C') :
    (storeVar t ⟨b, i, none⟩ v).run P w = .ok () (World.putObj w b (.cells C' e (0, 0))) := by subst hC; exact run_store1 hg hi hv hlt

theorem wi64 {x z : Int} (h : -9223372036854775808 ≤ z ∧ z < 9223372036854775808) (e : x = z) : Value.int .i64 (IntKind.i64.wrap x) = Value.int .i64 z := by
  subst e; rw [IntWalk.i64_in _ (by omega)]
theorem wu64 {x z : Int} (h : 0 ≤ z ∧ z < 18446744073709551616) (e : x = z) : Value.int .u64 (IntKind.u64.wrap x) = Value.int .u64 z := by
  subst e; rw [IntKind.wrap_u64]; congr 1; omega
theorem wu64m {x z : Int} (e : x % 18446744073709551616 = z) : Value.int .u64 (IntKind.u64.wrap x) = Value.int .u64 z := by
  subst e; rw [IntKind.wrap_u64]
theorem ieq {k : IntKind} {x z : Int} (e : x = z) : Value.int k x = Value.int k z := by rw [e]
theorem beq {x z : Bool} (e : x = z) : Value.bool x = Value.bool z := by rw [e]

theorem run_indexA' {t e : TypeId} {len s b o k off : Nat} {kd : IntKind} (hu : P.underlying t = some (.array len e)) (hs : (P.info? e).map (·.size) = some s) (hk : k < len) (ho : o + k * s = off) (w : World) :
    (Instr.indexAt t (.pointer (some ⟨b, o, none⟩)) (.int kd (k : Nat))).run P w = .ok (.pointer (some ⟨b, off, none⟩)) w := by subst ho; exact run_indexA hu hs hk w
theorem run_indexS' {t e : TypeId} {len cap s b o k off : Nat} {kd : IntKind} (hu : P.underlying t = some (.slice e)) (hs : (P.info? e).map (·.size) = some s) (hk : k < len) (ho : o + k * s = off) (w : World) :
    (Instr.indexAt t (.slice (some ⟨b, o, none⟩) len cap) (.int kd (k : Nat))).run P w = .ok (.pointer (some ⟨b, off, none⟩)) w := by subst ho; exact run_indexS hu hs hk w

section
variable {Q : Exit → Act → World → Prop} {K : Act → World → Prop} {a : Act}
theorem x_thenExit {id : Nat} (h : Q (.exit id) a w) : Exit.then K Q (.exit id) a w := h
theorem x_thenRet (h : Q .ret a w) : Exit.then K Q .ret a w := h
theorem x_blockRet {id : Nat} (h : Q .ret a w) : Exit.inBlock id Q .ret a w := h
end
theorem x_enter' {w0 : World} {D : List Nat} {n : Nat} {f : FuncId} {fn : Func} {c : Code} {args : List Value} {Post : Value → World → Prop} (hf : P.funcs[f]? = some fn) (hb : fn.body = some c) (hn : fn.ntmps = n) (hl : args.length ≤ n)
    (h : ∀ a w, St w0 D n (argFr 0 args) [] a w → c.wp P (bodyPost P fn (Fin D w0 Post)) a w) : Fn P f args w0 D Post :=
  x_enter hf hb hn hl fun a st => h a w0 st
theorem x_retp {w0 : World} {D : List Nat} {n : Nat} {F : Fr} {H : Hp} {a : Act} (st : St w0 D n F H a w) {fn : Func} {rs : List ResultVar} {Post : Value → World → Prop} (vs : List Value) {v : Value} (hr : fn.results = rs.toArray) (hv : ResAre P F w rs vs)
    (hs : (if h : vs.toArray.size = 1 then vs.toArray[0] else .tuple vs.toArray) = v) (hp : Post v w) : bodyPost P fn (Fin D w0 Post) .ret a w :=
  ⟨st.dfr, v, run_results st hr hv hs, st.keeps, hp⟩
theorem enters_at {f : FuncId} {fn : Func} {c : Code} (hf : P.funcs[f]? = some fn) (hname : (fn.name == "runtime.NumGoroutine") = false) (hb : fn.body = some c) (args : Array Value) (w : World) :
    (callFunc f args).run P w = .ok (.enter f args) w := by
  have h1 : fn.name ≠ "runtime.NumGoroutine" := by simpa using hname
  simp [callFunc, hf, h1, hb, mark]
theorem r_build0 {a : Act} {o : Oper} {t : TypeId} {z : Value} (hb : ∀ w, (Instr.build t #[]).run P w = .ok z w) (ho : o.op = .build t #[]) {w' : World} : (execOp a.eval o).run P w' = .ok (.value z) w' := by
  unfold execOp
  simp only [ho, List.map_toArray, List.map_nil, Sem.run_bind, hb, Result.andThen_ok, Sem.run_pure]
theorem cvi64 {z : Int} (h : -9223372036854775808 ≤ z ∧ z < 9223372036854775808) : IntKind.i64.wrap z = z := IntWalk.i64_in _ (by omega)
theorem cvu64 {z : Int} (h : 0 ≤ z ∧ z < 18446744073709551616) : IntKind.u64.wrap z = z := IntWalk.u64_in _ (by omega)
theorem cvu64m {x z : Int} (h : x % 18446744073709551616 = z) : IntKind.u64.wrap x = z := by rw [IntKind.wrap_u64]; exact h
end Go.Proofs.YtnkbhmonceiocaaDoor
