/-
  Calls that write what the caller hands them, in the small logic of Core. No program text stands in it.
-/
import Derived.Test.YtnkbhmonceiocaaDoorRun
namespace Go.Proofs.YtnkbhmonceiocaaDoor
open Go Go.RowKit
variable {P : Program} {w0 : World} {D : List Nat} {n : Nat} {F : Fr} {H : Hp} {a : Act} {w : World}
variable {Q : Exit → Act → World → Prop} {ops : Array Oper} {rest : List Oper} {o : Oper}
/-- A block of the caller's that may be written. -/
theorem St.own1 (st : St w0 D n F H a w) {b : Nat} {ob : Obj} (hb : w.heap[b]? = some ob) (hD : b ∈ D) (hn : b ∉ H.map Prod.fst) : St w0 D n F ((b, ob) :: H) a w where
  size := st.size
  dfr := st.dfr
  fr := st.fr
  hp := fun x hx => by
    rcases List.mem_cons.1 hx with rfl | hx
    · exact hb
    · exact st.hp x hx
  own := fun x hx => by
    rcases List.mem_cons.1 hx with rfl | hx
    · exact .inl hD
    · exact st.own x hx
  nd := by simp only [List.map_cons, List.nodup_cons]; exact ⟨hn, st.nd⟩
  keeps := st.keeps
/-- Entering with blocks of the caller's that may be written. -/
theorem x_enterD {w0 : World} {D : List Nat} {n : Nat} {H : Hp} {f : FuncId} {fn : Func} {c : Code} {args : List Value} {Post : Value → World → Prop} (hf : P.funcs[f]? = some fn) (hb : fn.body = some c) (hn : fn.ntmps = n) (hl : args.length ≤ n)
    (hH : ∀ h, h ∈ H → w0.heap[h.1]? = some h.2 ∧ h.1 ∈ D) (hnd : (H.map Prod.fst).Nodup)
    (h : ∀ a w, St w0 D n (argFr 0 args) H a w → c.wp P (bodyPost P fn (Fin D w0 Post)) a w) : Fn P f args w0 D Post :=
  x_enter hf hb hn hl fun a st => h a w0 ⟨st.size, st.dfr, st.fr, fun x hx => (hH x hx).1, fun x hx => .inl (hH x hx).2, hnd, st.keeps⟩
theorem set_fst : ∀ (H : Hp) (i : Nat) (b : Nat) (ob ob' : Obj), H[i]? = some (b, ob) → (H.set i (b, ob')).map Prod.fst = H.map Prod.fst
  | [], i, b, ob, ob', h => by simp at h
  | x :: H, 0, b, ob, ob', h => by simp at h; subst h; rfl
  | x :: H, i + 1, b, ob, ob', h => by simp at h; simp [set_fst H i b ob ob' h]
theorem set_mem {H : Hp} {i b : Nat} {ob ob' : Obj} (hi : H[i]? = some (b, ob)) (hnd : (H.map Prod.fst).Nodup) : ∀ x, x ∈ H.set i (b, ob') → x = (b, ob') ∨ (x ∈ H ∧ x.1 ≠ b) := by
  intro x hx
  obtain ⟨j, hj⟩ := List.getElem?_of_mem hx
  rw [List.getElem?_set] at hj
  by_cases e : i = j
  · subst e
    rw [if_pos rfl] at hj
    split at hj
    · cases hj; exact .inl rfl
    · cases hj
  · rw [if_neg e] at hj
    refine .inr ⟨List.mem_of_getElem? hj, fun hb => e ?_⟩
    have e1 : (H.map Prod.fst)[i]? = some b := by simp [hi]
    have e2 : (H.map Prod.fst)[j]? = some b := by simp [hj, hb]
    exact (List.getElem?_inj (List.getElem?_eq_some_iff.1 e1).1 hnd).1 (e1.trans e2.symm)
/-- A call that may write one block of one's own. -/
theorem x_callD (st : St w0 D n F H a w) (i : Nat) {b : Nat} {ob : Obj} {f : FuncId} {xs : List Operand} {ts : Array TypeId} {args : List Value} {Post : Value → World → Prop} {d : Nat}
    (ho : o.op = .call { callee := .value (.func f), args := xs.toArray, argTypes := ts }) (ha : evAll F xs = some args)
    (hen : ∀ args w, (callFunc f args).run P w = .ok (.enter f args) w) (hg : o.guard = none) (hd : o.dst = some d) (hn : d < n) (hi : H[i]? = some (b, ob))
    (hf : Fn P f args w [b] Post)
    (h : ∀ a w' v, Keeps [b] w w' → Post v w' → (∀ b, w.heap.size ≤ b → b ∉ H.map Prod.fst ∧ w0.heap.size ≤ b) → (∀ ob', w'.heap[b]? = some ob' → St w0 D n ((d, v) :: F) (H.set i (b, ob')) a w') → wpList P ops Q rest a w') : wpList P ops Q (o :: rest) a w := by
  unfold wpList
  rw [if_pos (by simp [Region.wanted, hg])]
  refine .inl ?_
  unfold Oper.wp
  have hrun : (execOp a.eval o).run P w = .ok (.enter f args.toArray) w := by
    unfold execOp
    simp only [ho, resolve, Deferred.ofValue, Act.eval, Sem.run_bind, Sem.run_pure, Result.andThen_ok, List.map_toArray, st.evAll ha, invoke, Array.append_empty, Array.empty_append, hen]
  rw [hrun]
  refine Calls.mono hf fun e w' he => ?_
  cases e with
  | returned v =>
    obtain ⟨hk, hp⟩ := he
    show wpList P ops Q rest (a.put o.dst v) w'
    rw [hd]
    refine h _ w' v hk hp (fun b hb => ⟨st.fresh hb, Nat.le_trans st.keeps.size hb⟩) (fun ob' hob => St.put ⟨st.size, st.dfr, st.fr, fun x hx => ?_, fun x hx => ?_, ?_, ?_⟩ v hn)
    · rcases set_mem hi st.nd x hx with rfl | ⟨hx, hne⟩
      · exact hob
      · exact hk.get (st.hp x hx) (by simpa using hne)
    · rcases set_mem hi st.nd x hx with rfl | ⟨hx, hne⟩
      · exact st.own (b, ob) (List.mem_of_getElem? hi)
      · exact st.own x hx
    · rw [set_fst H i b ob ob' hi]; exact st.nd
    · refine ⟨hk.os.trans st.keeps.os, hk.tape.trans st.keeps.tape, hk.output.trans st.keeps.output, Nat.le_trans st.keeps.size hk.size, fun c hc hcD => ?_⟩
      rw [hk.blk c (Nat.lt_of_lt_of_le hc st.keeps.size) (fun hm => by
        simp at hm
        subst hm
        rcases st.own (c, ob) (List.mem_of_getElem? hi) with h1 | h1
        · exact hcD h1
        · exact absurd hc (by simp only at h1; omega))]
      exact st.keeps.blk c hc hcD
  | panicked c => exact he.elim
  | outgrown => exact he.elim
end Go.Proofs.YtnkbhmonceiocaaDoor
