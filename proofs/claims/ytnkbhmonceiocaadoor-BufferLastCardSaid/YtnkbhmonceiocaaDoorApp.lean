/-
  append onto a slice of one's own. No program text stands in it.
-/
import Derived.Test.YtnkbhmonceiocaaDoorExt
import Derived.Laws.AppendOwn
namespace Go.Proofs.YtnkbhmonceiocaaDoor
open Go Go.RowKit
variable {P : Program} {w0 w1 : World} {D B : List Nat} {n : Nat} {F : Fr} {H : Hp} {a : Act} {w : World}
variable {Q : Exit → Act → World → Prop} {ops : Array Oper} {rest : List Oper} {o : Oper}
theorem r_append (st : St w0 D n F H a w) {t : TypeId} {x y : Operand} {u v r : Value} (ho : o.op = .call { callee := .builtin .append, args := #[x, y], argTypes := #[t, t] }) (hx : evF F x = some u) (hy : evF F y = some v) {w' w'' : World}
    (hr : (Builtin.append_ #[t, t] o.type #[u, v]).run P w' = .ok r w'') : (execOp a.eval o).run P w' = .ok (.value r) w'' := by
  unfold execOp
  simp only [ho, resolve, Sem.run_bind, Sem.run_pure, Result.andThen_ok, invoke, builtin, List.map_toArray, List.map_cons, List.map_nil, st.ev hx, st.ev hy]
  simp [hr]
theorem r_eqAgg (st : St w0 D n F H a w) {t ty : TypeId} {x y : Operand} {C E : Array Value} {b : Bool} (ho : o.op = .binOp .eql t x y ty) (hx : evF F x = some (.agg C)) (hy : evF F y = some (.agg E)) (hq : P.eqGuardType P.depth t = false) {w' : World}
    (hb : (binOp .eql t (.agg C) (.agg E)).run P w' = .ok (.bool b) w') : (execOp a.eval o).run P w' = .ok (.value (.bool b)) w' := by
  have hgd : (eqGuard .eql t x y (.agg C) (.agg E)).run P w' = .ok () w' := by
    unfold eqGuard
    simp [hq]
  unfold execOp
  simp only [ho, st.ev hx, st.ev hy, Sem.run_bind, Sem.run_pure, Result.andThen_ok, hgd, hb]
theorem run_sliceLo {t e : TypeId} {len cap s b o l : Nat} {kd : IntKind} (hu : P.underlying t = some (.slice e)) (hs : (P.info? e).map (·.size) = some s) (hl : l ≤ len) (hk : len ≤ cap) (hc : l < cap ∨ l = 0) (w : World) :
    (Instr.sliceAt t (.slice (some ⟨b, o, none⟩) len cap) (some (.int kd (l : Nat))) none none).run P w = .ok (.slice (some ⟨b, o + l * s, none⟩) (len - l) (cap - l)) w := by
  have h2 : (0 : Int) ≤ (l : Int) ∧ (l : Int) ≤ (len : Int) := by omega
  by_cases h3 : cap = l
  · have h4 : l = 0 := by omega
    subst h4
    simp only [Instr.sliceAt, Instr.slice, run_underlying hu w, Instr.sliceBounds, Instr.sliceBound, asIntOf, Sem.run_bind, Sem.run_pure, Result.andThen_ok, h2, and_self, if_true, Int.toNat_natCast, run_sizeOf hs w, h3, Option.map_some, Nat.zero_mul, Nat.add_zero]
  · simp only [Instr.sliceAt, Instr.slice, run_underlying hu w, Instr.sliceBounds, Instr.sliceBound, asIntOf, Sem.run_bind, Sem.run_pure, Result.andThen_ok, h2, and_self, if_true, Int.toNat_natCast, run_sizeOf hs w, h3, if_false, Option.map_some, addr_add]
theorem run_sliceNil {t e : TypeId} {s : Nat} {kd : IntKind} (hu : P.underlying t = some (.slice e)) (hs : (P.info? e).map (·.size) = some s) (w : World) :
    (Instr.sliceAt t (.slice none 0 0) (some (.int kd 0)) none none).run P w = .ok (.slice none 0 0) w := by
  simp [Instr.sliceAt, Instr.slice, run_underlying hu w, Instr.sliceBounds, Instr.sliceBound, asIntOf, Sem.run_bind, run_sizeOf hs w]
theorem r_max (st : St w0 D n F H a w) {t t' : TypeId} {x y : Operand} {k k' : IntKind} {u v z : Int} (ho : o.op = .call { callee := .builtin .max, args := #[x, y], argTypes := #[t, t'] }) (hx : evF F x = some (.int k u)) (hy : evF F y = some (.int k' v)) (hz : max u v = z) {w' : World} :
    (execOp a.eval o).run P w' = .ok (.value (.int k z)) w' := by
  unfold execOp
  simp only [ho, resolve, Sem.run_bind, Sem.run_pure, Result.andThen_ok, invoke, builtin, List.map_toArray, List.map_cons, List.map_nil, st.ev hx, st.ev hy]
  have e : (if v > u then v else u) = z := by omega
  simp [Builtin.max_, Builtin.max2, e]
theorem r_min (st : St w0 D n F H a w) {t t' : TypeId} {x y : Operand} {k k' : IntKind} {u v z : Int} (ho : o.op = .call { callee := .builtin .min, args := #[x, y], argTypes := #[t, t'] }) (hx : evF F x = some (.int k u)) (hy : evF F y = some (.int k' v)) (hz : min u v = z) {w' : World} :
    (execOp a.eval o).run P w' = .ok (.value (.int k z)) w' := by
  unfold execOp
  simp only [ho, resolve, Sem.run_bind, Sem.run_pure, Result.andThen_ok, invoke, builtin, List.map_toArray, List.map_cons, List.map_nil, st.ev hx, st.ev hy]
  have e : (if v < u then v else u) = z := by omega
  simp [Builtin.min_, Builtin.min2, e]
theorem r_eqSlNil (st : St w0 D n F H a w) {t ty e : TypeId} {x : Operand} {ad : Addr} {k c : Nat} (ho : o.op = .binOp .eql t x (.const (.slice none 0 0)) ty) (hx : evF F x = some (.slice (some ad) k c)) (hu : P.underlying t = some (.slice e)) {w' : World} :
    (execOp a.eval o).run P w' = .ok (.value (.bool false)) w' := by
  have he : (Op.equal t (.slice (some ad) k c) (.slice none 0 0)).run P w' = .ok false w' := by
    unfold Op.equal Op.maxDepth Op.equalIn
    simp [Sem.run_bind, run_underlying hu w']
  have hgd : (eqGuard .eql t x (.const (.slice none 0 0)) (.slice (some ad) k c) (.slice none 0 0)).run P w' = .ok () w' := by
    unfold eqGuard; simp
  have hy : a.eval (.const (.slice none 0 0)) = .slice none 0 0 := rfl
  have hb : (binOp .eql t (.slice (some ad) k c) (.slice none 0 0)).run P w' = .ok (.bool false) w' := by
    show (do pure (Value.bool (← Op.equal t (.slice (some ad) k c) (.slice none 0 0))) : Sem Value).run P w' = _
    simp only [Sem.run_bind, he, Result.andThen_ok, Sem.run_pure]
  unfold execOp
  simp only [ho, st.ev hx, hy, Sem.run_bind, Sem.run_pure, Result.andThen_ok, hgd, hb]
theorem r_eqSlNil0 (st : St w0 D n F H a w) {t ty e : TypeId} {x : Operand} (ho : o.op = .binOp .eql t x (.const (.slice none 0 0)) ty) (hx : evF F x = some (.slice none 0 0)) (hu : P.underlying t = some (.slice e)) {w' : World} :
    (execOp a.eval o).run P w' = .ok (.value (.bool true)) w' := by
  have he : (Op.equal t (.slice none 0 0) (.slice none 0 0)).run P w' = .ok true w' := by
    unfold Op.equal Op.maxDepth Op.equalIn
    simp [Sem.run_bind, run_underlying hu w']
  have hgd : (eqGuard .eql t x (.const (.slice none 0 0)) (.slice none 0 0) (.slice none 0 0)).run P w' = .ok () w' := by
    unfold eqGuard; simp
  have hy : a.eval (.const (.slice none 0 0)) = .slice none 0 0 := rfl
  have hb : (binOp .eql t (.slice none 0 0) (.slice none 0 0)).run P w' = .ok (.bool true) w' := by
    show (do pure (Value.bool (← Op.equal t (.slice none 0 0) (.slice none 0 0))) : Sem Value).run P w' = _
    simp only [Sem.run_bind, he, Result.andThen_ok, Sem.run_pure]
  unfold execOp
  simp only [ho, st.ev hx, hy, Sem.run_bind, Sem.run_pure, Result.andThen_ok, hgd, hb]
/-- Nothing is appended. -/
theorem run_append0 {t e : TypeId} {ty : TypeId} {s : Nat} (ht : P.underlying t = some (.slice e)) (hs : (P.info? e).map (·.size) = some s) (base : Option Addr) (k cap : Nat) (hk : k ≤ cap) (w : World) :
    (Builtin.append_ #[t, t] ty #[.slice base k cap, .slice none 0 0]).run P w = .ok (.slice base k cap) w := by
  have h1 := run_sizeOf hs w
  cases base with
  | none => simp [Builtin.append_, run_underlying ht, h1, Builtin.lenOf, Builtin.firstCells, hk]
  | some b => simp [Builtin.append_, run_underlying ht, h1, Builtin.lenOf, Builtin.firstCells, hk, storeCells]
/-- A row that is longer than what is known of it. -/
def Cut (cur : Array Value) (xs : List Value) : Prop := cur.toList.take xs.length = xs
theorem Cut.get {cur : Array Value} {xs : List Value} (h : Cut cur xs) {j : Nat} {v : Value} (hj : xs[j]? = some v) : cur[j]? = some v := by
  unfold Cut at h
  have hlt : j < xs.length := (List.getElem?_eq_some_iff.1 hj).1
  rw [← h, List.getElem?_take_of_lt hlt] at hj
  simpa using hj
theorem Cut.size {cur : Array Value} {xs : List Value} (h : Cut cur xs) : xs.length ≤ cur.size := by
  unfold Cut at h
  have := congrArg List.length h
  rw [List.length_take] at this
  simp at this
  omega
theorem St.drew (st : St w0 D n F H a w) : St w0 D n F H a w.drew := ⟨st.size, st.dfr, st.fr, st.hp, st.own, st.nd, st.keeps.drew⟩
theorem eraseIdx_mem {H : Hp} {i : Nat} {x : Nat × Obj} (hi : H[i]? = some x) (hnd : (H.map Prod.fst).Nodup) : ∀ y, y ∈ H.eraseIdx i → y ∈ H ∧ y.1 ≠ x.1 := by
  intro y hy
  have h1 : y ∈ H := (List.eraseIdx_sublist H i).subset hy
  refine ⟨h1, fun e => ?_⟩
  obtain ⟨j, hj⟩ := List.getElem?_of_mem hy
  rw [List.getElem?_eraseIdx] at hj
  have e1 : (H.map Prod.fst)[i]? = some x.1 := by simp [hi]
  split at hj
  · rename_i hlt
    have e2 : (H.map Prod.fst)[j]? = some x.1 := by simp [hj, e]
    have := (List.getElem?_inj (List.getElem?_eq_some_iff.1 e1).1 hnd).1 (e1.trans e2.symm)
    omega
  · rename_i hlt
    have e2 : (H.map Prod.fst)[j + 1]? = some x.1 := by simp [hj, e]
    have := (List.getElem?_inj (List.getElem?_eq_some_iff.1 e1).1 hnd).1 (e1.trans e2.symm)
    omega
/-- The block takes its place at the head of what is left. -/
theorem St.turn (st : St w0 D n F H a w) (i : Nat) {g : Nat} {ob ob' : Obj} (hi : H[i]? = some (g, ob)) {w' : World} (hg : w'.heap[g]? = some ob') (ho : ∀ k, k ≠ g → w'.heap[k]? = w.heap[k]?) (hs : w'.heap.size = w.heap.size)
    (hos : w'.os = w.os) (ht : w'.tape = w.tape) (hu : w'.output = w.output) : St w0 D n F ((g, ob') :: H.eraseIdx i) a w' where
  size := st.size
  dfr := st.dfr
  fr := st.fr
  hp := fun x hx => by
    rcases List.mem_cons.1 hx with rfl | hx
    · exact hg
    · obtain ⟨h1, h2⟩ := eraseIdx_mem hi st.nd x hx
      rw [ho _ h2]; exact st.hp x h1
  own := fun x hx => by
    rcases List.mem_cons.1 hx with rfl | hx
    · exact st.own (g, ob) (List.mem_of_getElem? hi)
    · exact st.own x (eraseIdx_mem hi st.nd x hx).1
  nd := by
    simp only [List.map_cons, List.nodup_cons]
    refine ⟨fun h => ?_, ?_⟩
    · obtain ⟨x, hx, e⟩ := List.mem_map.1 h
      exact (eraseIdx_mem hi st.nd x hx).2 e
    · exact ((List.eraseIdx_sublist H i).map _).nodup st.nd
  keeps := ⟨hos.trans st.keeps.os, ht.trans st.keeps.tape, hu.trans st.keeps.output, by rw [hs]; exact st.keeps.size, fun k hk hD => by
    by_cases e : k = g
    · subst e
      rcases st.own (k, ob) (List.mem_of_getElem? hi) with h | h
      · exact absurd h hD
      · exact absurd hk (by simp only at h; omega)
    · rw [ho k e]; exact st.keeps.blk k hk hD⟩
theorem append_nil_run {t e ty : TypeId} {z : Value} {size bytes m c : Nat} {ad : Addr} {news : List Value} (ht : P.underlying t = some (.slice e)) (hz : (P.info? e).bind (·.zero) = some z) (hs : (P.info? e).map (·.size) = some size) (hb : (P.info? e).map (·.bytes) = some bytes)
    (hzs : z.cells.size = size) (hl : news.length = m * size) (hnews : ∀ j u, news[j]? = some u → w.cell? (ad.add j) = some u) (h0 : 0 < m) (hm : m ≤ 1099511627776) (hmb : m * bytes ≤ 140737488355328) :
    ∃ cap cur, m ≤ cap ∧ cap ≤ maxLen ∧ cur.size = cap * size ∧ Cut cur news ∧ (Builtin.append_ #[t, t] ty #[.slice none 0 0, .slice (some ad) m c]).run P w = .ok (.slice (some ⟨w.heap.size, 0, none⟩) m cap) (w.drew.alloc (.cells cur e (0, 0))) := by
  cases hq : P.info? e with
  | none => simp [hq] at hz
  | some inf =>
    simp only [hq, Option.bind_some, Option.map_some, Option.some.injEq] at hz hs hb
    subst hs; subst hb
    have hr := run_append_nil (P := P) w t ty e inf z ht hq hz ad m c news hl hnews h0 (by omega) (by omega)
    have hge := grownCap_ge w m 0 e
    refine ⟨_, _, hge, grownCap_le_maxLen w m 0 e (by unfold maxLen; omega), ?_, ?_, hr⟩
    · simp only [Array.size_append, List.size_toArray, size_zeroCells, hzs, hl, ← Nat.add_mul]
      congr 1; omega
    · unfold Cut; simp
/-- Onto nothing. -/
theorem x_appendN (st : St w0 D n F H a w) {t e : TypeId} {x y : Operand} {z : Value} {size bytes m c d : Nat} {ad : Addr} {news : List Value} (ho : o.op = .call { callee := .builtin .append, args := #[x, y], argTypes := #[t, t] }) (hx : evF F x = some (.slice none 0 0)) (hy : evF F y = some (.slice (some ad) m c))
    (ht : P.underlying t = some (.slice e)) (hz : (P.info? e).bind (·.zero) = some z) (hs : (P.info? e).map (·.size) = some size) (hb : (P.info? e).map (·.bytes) = some bytes)
    (hzs : z.cells.size = size) (hl : news.length = m * size) (hnews : ∀ j u, news[j]? = some u → w.cell? (ad.add j) = some u) (h0 : 0 < m) (hm : m ≤ 1099511627776) (hmb : m * bytes ≤ 140737488355328)
    (hg : o.guard = none) (hd : o.dst = some d) (hn : d < n)
    (h : ∀ a w' b cap cur, m ≤ cap → cap ≤ maxLen → cur.size = cap * size → Cut cur news → Keeps [] w w' → St w0 D n ((d, .slice (some ⟨b, 0, none⟩) m cap) :: F) ((b, .cells cur e (0, 0)) :: H) a w' → wpList P ops Q rest a w') : wpList P ops Q (o :: rest) a w := by
  obtain ⟨cap, cur, h1, h2, h3, h4, hr⟩ := append_nil_run (ty := o.type) ht hz hs hb hzs hl hnews h0 hm hmb (c := c)
  exact x_val hg (r_append st ho hx hy hr) (by rw [hd]; exact h _ _ w.heap.size cap cur h1 h2 h3 h4 ((Keeps.refl [] w).drew.alloc _) ((st.drew.push _).put _ hn))
theorem take_app {α : Type} (l : List α) (k : Nat) (xs ys : List α) (h : l.take k = xs) (hk : xs.length = k) : (l.take k ++ ys ++ l.drop (k + ys.length)).take (xs ++ ys).length = xs ++ ys := by
  rw [h]
  exact List.take_left
/-- Onto a slice of one's own. -/
theorem x_append (st : St w0 D n F H a w) (i : Nat) {t e : TypeId} {x y : Operand} {z : Value} {size bytes g k cap0 m c d : Nat} {cur0 : Array Value} {ad : Addr} {xs news : List Value} (ho : o.op = .call { callee := .builtin .append, args := #[x, y], argTypes := #[t, t] })
    (hx : evF F x = some (.slice (some ⟨g, 0, none⟩) k cap0)) (hy : evF F y = some (.slice (some ad) m c)) (hH : H[i]? = some (g, .cells cur0 e (0, 0))) (hkc : k ≤ cap0) (hcs : cur0.size = cap0 * size) (hxs : Cut cur0 xs) (hxl : xs.length = k * size)
    (ht : P.underlying t = some (.slice e)) (hz : (P.info? e).bind (·.zero) = some z) (hs : (P.info? e).map (·.size) = some size) (hb : (P.info? e).map (·.bytes) = some bytes)
    (hzs : z.cells.size = size) (hl : news.length = m * size) (hnews : ∀ j u, news[j]? = some u → w.cell? (ad.add j) = some u) (h1 : ∀ u ∈ news, u.oneCell' = true) (hm : k + m ≤ 1099511627776) (hmb : (k + m) * bytes ≤ 140737488355328)
    (hcm : cap0 ≤ maxLen) (hg : o.guard = none) (hd : o.dst = some d) (hn : d < n)
    (h : ∀ a w' b cap cur, k + m ≤ cap → cap ≤ maxLen → cur.size = cap * size → Cut cur (xs ++ news) → Keeps [g] w w' → St w0 D n ((d, .slice (some ⟨b, 0, none⟩) (k + m) cap) :: F) ((b, .cells cur e (0, 0)) :: H.eraseIdx i) a w' → wpList P ops Q rest a w') : wpList P ops Q (o :: rest) a w := by
  cases hq : P.info? e with
  | none => simp [hq] at hz
  | some inf =>
    simp only [hq, Option.bind_some, Option.map_some, Option.some.injEq] at hz hs hb
    subst hs; subst hb
    have hgb : w.heap[g]? = some (.cells cur0 e (0, 0)) := st.hp (g, _) (List.mem_of_getElem? hH)
    by_cases hroom : k + m ≤ cap0
    · have hfit : k * inf.size + news.length ≤ cur0.size := by rw [hl, hcs, ← Nat.add_mul]; exact Nat.mul_le_mul_right _ hroom
      have hr := run_append_room (P := P) w t o.type e inf ht hq g k cap0 cur0 hgb ad m c news hl hnews h1 hroom hfit
      refine x_val hg (r_append st ho hx hy hr) ?_
      rw [hd]
      have hsz : (w.setRow g (cur0.toList.take (k * inf.size) ++ news ++ cur0.toList.drop (k * inf.size + news.length)).toArray).heap.size = w.heap.size := by simp [World.setRow]
      refine h _ _ g cap0 _ hroom hcm ?_ ?_ ⟨rfl, rfl, rfl, by rw [hsz]; exact Nat.le_refl _, fun b _ hb => setRow_other w g b _ (by simpa using hb)⟩ ((st.turn i hH (setRow_heap w g cur0 _ e _ hgb) (fun b hb => setRow_other w g b _ hb) hsz rfl rfl rfl).put _ hn)
      · simp only [List.size_toArray, List.length_append, List.length_take, List.length_drop, Array.length_toList]
        omega
      · unfold Cut
        unfold Cut at hxs
        rw [hxl] at hxs
        exact take_app _ _ _ _ hxs hxl
    · have holds : ∀ j u, xs[j]? = some u → w.cell? ((⟨g, 0, none⟩ : Addr).add j) = some u := fun j u hj => by
        have := hxs.get hj
        rw [addr_add, Nat.zero_add]
        simp [World.cell?, hgb, this]
      have hr := run_append_grow (P := P) w t o.type e inf z ht hq hz ⟨g, 0, none⟩ k cap0 xs hxl holds ad m c news hl hnews (by omega) (by omega) (growslice_fits (by omega) hmb)
      have hge := grownCap_ge w (k + m) cap0 e
      refine x_val hg (r_append st ho hx hy hr) ?_
      rw [hd]
      refine h _ _ w.heap.size _ _ hge (grownCap_le_maxLen w (k + m) cap0 e (by unfold maxLen; omega)) ?_ ?_ ((Keeps.refl [g] w).drew.alloc _) (((st.heap (List.eraseIdx_sublist H i)).drew.push _).put _ hn)
      · simp only [Array.size_append, List.size_toArray, size_zeroCells, hzs, hl, hxl, ← Nat.add_mul]
        congr 1; omega
      · unfold Cut
        simp only [Array.toList_append, List.append_assoc]
        rw [← List.append_assoc]
        exact List.take_left
/-! ### A list that is built in a region that draws its order -/
variable {l : List Oper} {rs : List RS} {i : Nat} {ts : List Nat} {es : List Early}
def RSpec.slc (len : Nat) (ob : Obj) : RSpec := ⟨fun u w => ∃ b, u = .slice (some ⟨b, 0, none⟩) len len ∧ w.heap[b]? = some ob, blkOf, fun _ _ _ _ ⟨b, e, h⟩ hk hb => ⟨b, e, hk.get h (hb b (by subst e; simp [blkOf]))⟩⟩
theorem DrawEnd.slc (h : DrawEnd w0 H l rs a w) (j : Nat) {d len : Nat} {ob : Obj} (hr : rs[j]? = some (.spec (.slc len ob))) (hd : (l[j]?).bind (·.dst) = some d) :
    ∃ b, a.tmps[d]? = some (.slice (some ⟨b, 0, none⟩) len len) ∧ w.heap[b]? = some ob ∧ b ∉ H.map Prod.fst ∧ w0.heap.size ≤ b := by
  obtain ⟨v, h1, b, e, h2⟩ := h.ex.at j hr rfl hd
  subst e
  exact ⟨b, h1, h2, h.old j _ d _ b hr hd h1 (by simp [RSpec.slc, blkOf])⟩
/-- A slice of one's own that a call has made. -/
def RSpec.own (e : TypeId) (size m : Nat) (xs : List Value) : RSpec := ⟨fun u w => ∃ g cap cur, u = .slice (some ⟨g, 0, none⟩) m cap ∧ w.heap[g]? = some (.cells cur e (0, 0)) ∧ m ≤ cap ∧ cap ≤ maxLen ∧ cur.size = cap * size ∧ Cut cur xs, blkOf,
  fun _ _ _ _ ⟨g, cap, cur, e, h, r⟩ hk hb => ⟨g, cap, cur, e, hk.get h (hb g (by subst e; simp [blkOf])), r⟩⟩
theorem DrawEnd.own (h : DrawEnd w0 H l rs a w) (j : Nat) {d : Nat} {e : TypeId} {size m : Nat} {xs : List Value} (hr : rs[j]? = some (.spec (.own e size m xs))) (hd : (l[j]?).bind (·.dst) = some d) :
    ∃ g cap cur, a.tmps[d]? = some (.slice (some ⟨g, 0, none⟩) m cap) ∧ w.heap[g]? = some (.cells cur e (0, 0)) ∧ (g ∉ H.map Prod.fst ∧ w0.heap.size ≤ g) ∧ m ≤ cap ∧ cap ≤ maxLen ∧ cur.size = cap * size ∧ Cut cur xs := by
  obtain ⟨v, h1, g, cap, cur, e, h2, h3⟩ := h.ex.at j hr rfl hd
  subst e
  exact ⟨g, cap, cur, h1, h2, h.old j _ d _ g hr hd h1 (by simp [RSpec.own, blkOf]), h3⟩
theorem own_spec {e : TypeId} {size m : Nat} {xs : List Value} (w : World) (v : Value) (w' : World) (_ : Keeps [] w w') (h : ∃ g cap cur, v = .slice (some ⟨g, 0, none⟩) m cap ∧ w'.heap[g]? = some (.cells cur e (0, 0)) ∧ w.heap.size ≤ g ∧ m ≤ cap ∧ cap ≤ maxLen ∧ cur.size = cap * size ∧ Cut cur xs) :
    (RS.spec (RSpec.own e size m xs)).to.R v w' ∧ ∀ b, b ∈ (RS.spec (RSpec.own e size m xs)).to.blk v → w.heap.size ≤ b ∧ b < w'.heap.size := by
  obtain ⟨g, cap, cur, rfl, h1, h2, h3⟩ := h
  refine ⟨⟨g, cap, cur, rfl, h1, h3⟩, fun c hc => ?_⟩
  have hc : c ∈ [g] := hc
  rw [List.mem_singleton] at hc
  subst hc
  exact ⟨h2, lt_of_get h1⟩
/-- Two that were made apart are two. -/
theorem DrawEnd.ne2 (h : DrawEnd w0 H l rs a w) (i j : Nat) {di dj b c : Nat} {s t : RSpec} {vi vj : Value} (hne : i ≠ j) (hri : rs[i]? = some (.spec s)) (hrj : rs[j]? = some (.spec t)) (hdi : (l[i]?).bind (·.dst) = some di) (hdj : (l[j]?).bind (·.dst) = some dj)
    (hi : a.tmps[di]? = some vi) (hj : a.tmps[dj]? = some vj) (hb : s.blk vi = [b]) (hc : t.blk vj = [c]) : c ≠ b := fun e => by
  have := h.ap i j hne s t di dj vi vj b hri hrj hdi hdj hi hj (by rw [hb]; simp)
  rw [hc] at this
  exact this (by simp [e])
theorem ob_bslice {Fi : Fr} {t e : TypeId} {len : Nat} {ps : List (Nat × Operand)} {vs : List (Nat × Value)} {C : Array Value} (hs : isOff ts es l i = false) (ho : o.op = .buildSlice t len ps.toArray) (hg : o.guard = none) (hF : FrSub Fi (depFr l rs i ++ baseFr l i F)) (hv : evParts Fi ps = some vs)
    (hb : ∀ w, (Instr.buildSlice t len vs.toArray).run P w = .ok (.slice (some ⟨w.heap.size, 0, none⟩) len len) (w.alloc (.cells C e (0, 0)))) : Ob1 P w0 w1 D B n H ts es l rs F i o (.spec (.slc len (.cells C e (0, 0)))) := by
  have hp : isPure o = false := by unfold isPure; rw [ho]
  refine ⟨?_⟩
  unfold Ob1core
  rw [hs]
  simp only [Bool.false_eq_true, if_false, hp]
  intro a w st hk hx
  rw [if_pos (by simp [Region.wanted, hg])]
  have hr : (execOp a.eval o).run P w = .ok (.value (.slice (some ⟨w.heap.size, 0, none⟩) len len)) (w.alloc (.cells C e (0, 0))) := by
    unfold execOp
    have e : (ps.toArray.map fun (x : Nat × Operand) => match x with | (i, x) => (i, a.eval x)) = vs.toArray := by
      show ps.toArray.map (fun p => (p.1, a.eval p.2)) = vs.toArray
      rw [List.map_toArray, (st.frame hF.look).evParts hv]
    simp only [ho, Sem.run_bind, Sem.run_pure]
    rw [e, hb]
    rfl
  unfold Oper.wp
  rw [hr]
  refine ⟨_, rfl, (Keeps.refl [] w).alloc _, ⟨w.heap.size, rfl, ?_⟩, fun b hb => ?_⟩
  · show (w.heap.push _)[w.heap.size]? = _; simp
  · have hb : b ∈ [w.heap.size] := hb
    rw [List.mem_singleton] at hb
    subst hb
    exact ⟨Nat.le_refl _, by rw [World.size_alloc]; exact Nat.lt_succ_self _⟩
end Go.Proofs.YtnkbhmonceiocaaDoor
