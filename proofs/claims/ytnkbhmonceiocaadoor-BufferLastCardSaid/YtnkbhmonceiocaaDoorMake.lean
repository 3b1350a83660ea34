/-
  make of a slice, calls that write blocks, stores into blocks that are known by a fact beside the state. No program text stands in it.
-/
import Derived.Test.YtnkbhmonceiocaaDoorCallD
import Derived.Laws.MakeOwn
namespace Go.Proofs.YtnkbhmonceiocaaDoor
open Go Go.RowKit
variable {P : Program} {w0 : World} {D : List Nat} {n : Nat} {F : Fr} {H : Hp} {a : Act} {w : World}
variable {Q : Exit → Act → World → Prop} {ops : Array Oper} {rest : List Oper} {o : Oper}
theorem x_make (st : St w0 D n F H a w) {t e : TypeId} {x y : Operand} {z : Value} {s bs l c d : Nat} (ho : o.op = .makeSlice t x y) (hx : evF F x = some (.int .i64 (l : Nat))) (hy : evF F y = some (.int .i64 (c : Nat)))
    (ht : P.underlying t = some (.slice e)) (hz : (P.info? e).bind (·.zero) = some z) (hs : (P.info? e).map (·.size) = some s) (hb : (P.info? e).map (·.bytes) = some bs)
    (hg : o.guard = none) (hd : o.dst = some d) (hn : d < n) (hl : l ≤ c) (hc : bs * c ≤ 281474976710656) (hc2 : c ≤ 9223372036854775807)
    (h : ∀ a w b, St w0 D n ((d, .slice (some ⟨b, 0, none⟩) l c) :: F) ((b, .cells (madeCells z.cells (c * s)) e (0, 0)) :: H) a w → wpList P ops Q rest a w) : wpList P ops Q (o :: rest) a w := by
  cases hq : P.info? e with
  | none => simp [hq] at hz
  | some inf =>
    simp only [hq, Option.bind_some, Option.map_some, Option.some.injEq] at hz hs hb
    subst hs; subst hb
    have hcb : (inf.bytes : Int) * (c : Int) ≤ 281474976710656 := by
      have h : ((inf.bytes * c : Nat) : Int) ≤ 281474976710656 := by omega
      rwa [Int.natCast_mul] at h
    have hr := run_make (P := P) w t e inf z ht hq hz .i64 .i64 (l : Int) (c : Int) (by omega) (by omega) hcb (by omega)
    simp only [Int.toNat_natCast] at hr
    refine x_val hg (v := .slice (some ⟨w.heap.size, 0, none⟩) l c) (w' := w.alloc (.cells (madeCells z.cells (c * inf.size)) e (0, 0))) ?_ (by rw [hd]; exact h _ _ _ ((st.push _).put _ hn))
    unfold execOp
    simp only [ho, st.ev hx, st.ev hy, Sem.run_bind, Sem.run_pure, Result.andThen_ok]
    rw [hr]
    rfl
theorem made_u64 {z : Array Value} (h : ∀ i, i < z.size → z[i]? = some (.int .u64 0)) (h0 : 0 < z.size) (n : Nat) : madeCells z n = AF n (fun _ => 0) := by
  apply Array.ext_getElem?
  intro i
  by_cases hi : i < n
  · have hm : i % z.size < z.size := Nat.mod_lt _ h0
    have h1 := h (i % z.size) hm
    rw [AF_get hi]
    simp only [madeCells, Array.getElem?_map]
    rw [Array.getElem?_eq_getElem (by simpa using hi)]
    simp only [Option.map_some, Array.getElem_range]
    rw [getElem!_pos z (i % z.size) hm]
    rw [Array.getElem?_eq_getElem hm] at h1
    simp only [Option.some.injEq] at h1
    rw [h1]; rfl
  · rw [Array.getElem?_eq_none (by rw [size_madeCells]; omega), Array.getElem?_eq_none (by rw [AF_size]; omega)]
theorem made1 (n : Nat) : madeCells (Value.int .u64 0).cells (n * 1) = AF n (fun _ => 0) := by
  rw [Nat.mul_one]
  exact made_u64 (fun i hi => by
    have : i < 1 := hi
    have : i = 0 := by omega
    subst this; rfl) (by decide) n
theorem St.ne (st : St w0 D n F H a w) (i j : Nat) {x y : Nat × Obj} (hi : H[i]? = some x) (hj : H[j]? = some y) (hij : i ≠ j) : x.1 ≠ y.1 := fun e => by
  have e1 : (H.map Prod.fst)[i]? = some x.1 := by simp [hi]
  have e2 : (H.map Prod.fst)[j]? = some x.1 := by simp [hj, e]
  exact hij ((List.getElem?_inj (List.getElem?_eq_some_iff.1 e1).1 st.nd).1 (e1.trans e2.symm))
theorem wpOp_ends {J : Act → World → Prop} {k : Nat} {K K' : Act → World → Prop} (hK : ∀ a w, K a w → K' a w) (h : wpOp P ops (QK J Q) k K a w) : wpOp P ops Q k K' a w := by
  unfold wpOp at *
  split
  · rename_i e; rw [e] at h; exact hK _ _ h
  · rename_i o e
    rw [e] at h
    simp only [] at h
    split at h
    · rename_i hw
      rw [if_pos hw]
      rcases h with h | h
      · refine .inl (Oper.wp_mono hK ?_)
        unfold Oper.wp at *
        generalize (execOp a.eval o).run P w = r at *
        cases r with
        | ok m w' => cases m <;> exact h
        | halt x w' => cases x <;> exact h
      · exact .inr h
    · rename_i hw; rw [if_neg hw]; exact hK _ _ h
/-- Where ways meet again behind what is left of a region. -/
theorem Wt.to {J : Act → World → Prop} {l : List Oper} (hJ : ∀ a w, J a w → Q .normal a w) : ∀ (f : Nat) (rem : List Nat) (a : Act) (w : World), Wt P (QK J Q) l f rem a w → Wt P Q l f rem a w
  | 0, _, a, w, h => hJ a w h
  | f + 1, rem, a, w, h => ⟨fun e => hJ a w (h.1 e), fun k hk => wpOp_ends (fun a w => Wt.to hJ f _ a w) (h.2 k hk)⟩
theorem St.ne_old (st : St w0 [] n F H a w) (i : Nat) {x : Nat × Obj} (hi : H[i]? = some x) {b : Nat} (hb : b < w0.heap.size) : b ≠ x.1 := fun e => by
  rcases st.own x (List.mem_of_getElem? hi) with h | h
  · cases h
  · omega
/-- A call that may write blocks, none of them in one's own list. -/
theorem x_callW (st : St w0 D n F H a w) {D' : List Nat} {f : FuncId} {xs : List Operand} {ts : Array TypeId} {args : List Value} {Post : Value → World → Prop} {d : Nat}
    (ho : o.op = .call { callee := .value (.func f), args := xs.toArray, argTypes := ts }) (ha : evAll F xs = some args)
    (hen : ∀ args w, (callFunc f args).run P w = .ok (.enter f args) w) (hg : o.guard = none) (hd : o.dst = some d) (hn : d < n)
    (hD : ∀ b, b ∈ D' → (b ∈ D ∨ w0.heap.size ≤ b) ∧ b ∉ H.map Prod.fst)
    (hf : Fn P f args w D' Post)
    (h : ∀ a w' v, Keeps D' w w' → Post v w' → (∀ b, w.heap.size ≤ b → b ∉ H.map Prod.fst ∧ w0.heap.size ≤ b) → St w0 D n ((d, v) :: F) H a w' → wpList P ops Q rest a w') : wpList P ops Q (o :: rest) a w := by
  unfold wpList
  rw [if_pos (by simp [Region.wanted, hg])]
  refine .inl ?_
  unfold Oper.wp
  have hrun : (execOp a.eval o).run P w = .ok (.enter f args.toArray) w := by
    unfold execOp
    simp only [ho, resolve, Deferred.ofValue, Act.eval, Sem.run_bind, Sem.run_pure, Result.andThen_ok, List.map_toArray, st.evAll ha, invoke, Array.append_empty, Array.empty_append, hen]
  rw [hrun]
  refine Calls.mono hf fun e w' he => ?_
  cases e with
  | returned v =>
    obtain ⟨hk, hp⟩ := he
    show wpList P ops Q rest (a.put o.dst v) w'
    rw [hd]
    refine h _ w' v hk hp (fun b hb => ⟨st.fresh hb, Nat.le_trans st.keeps.size hb⟩) (St.put ⟨st.size, st.dfr, st.fr, fun x hx => hk.get (st.hp x hx) (fun hx' => (hD _ hx').2 (List.mem_map_of_mem hx)), st.own, st.nd, ?_⟩ v hn)
    refine ⟨hk.os.trans st.keeps.os, hk.tape.trans st.keeps.tape, hk.output.trans st.keeps.output, Nat.le_trans st.keeps.size hk.size, fun c hc hcD => ?_⟩
    rw [hk.blk c (Nat.lt_of_lt_of_le hc st.keeps.size) (fun hm => by
      rcases (hD c hm).1 with h1 | h1
      · exact hcD h1
      · exact absurd hc (by omega))]
    exact st.keeps.blk c hc hcD
  | panicked c => exact he.elim
  | outgrown => exact he.elim
/-- A store into a block that is none of the list. -/
theorem x_storeF (st : St w0 D n F H a w) {t : TypeId} {x y : Operand} {b off : Nat} {o' : Obj} {v : Value} (ho : o.op = .store t x y) (ha : evF F x = some (.pointer (some ⟨b, off, none⟩))) (hy : evF F y = some v)
    (hv : (storeVar t ⟨b, off, none⟩ v).run P w = .ok () (World.putObj w b o')) (hb : (b ∈ D ∨ w0.heap.size ≤ b) ∧ b ∉ H.map Prod.fst) (hg : o.guard = none) (hd : o.dst = none)
    (h : ∀ a, St w0 D n F H a (World.putObj w b o') → wpList P ops Q rest a (World.putObj w b o')) : wpList P ops Q (o :: rest) a w := by
  refine x_unit hg (w' := World.putObj w b o') (by unfold execOp; simp only [ho, st.ev ha, st.ev hy, Instr.storeAt, Instr.sureAddr, Sem.run_bind, Sem.run_pure, Result.andThen_ok, hv]) ?_
  rw [hd]
  refine h _ ⟨st.size, st.dfr, st.fr, fun x hx => ?_, st.own, st.nd, st.keeps.putObj hb.1 _⟩
  rw [putObj_other (fun e => hb.2 (by rw [← e]; exact List.mem_map_of_mem hx))]
  exact st.hp x hx
end Go.Proofs.YtnkbhmonceiocaaDoor
