/-
  A region that draws its order, in which one call makes a new block (an error): what waits for the call is told by that block. No program text stands in it.
-/
import Derived.Test.YtnkbhmonceiocaaDoorMake
namespace Go.Proofs.YtnkbhmonceiocaaDoor
open Go Go.RowKit
variable {P : Program} {w0 : World} {D : List Nat} {n : Nat} {F : Fr} {H : Hp} {a : Act} {w : World}
variable {Q : Exit → Act → World → Prop} {ts : List Nat}
theorem Ob.more {w1 : World} {l : List Oper} {Rs : Nat → RSpec} {i : Nat} {o : Oper} {x : Nat × Obj} (h : Ob P w0 w1 D [] n H ts [] l Rs F i o) : Ob P w0 w1 D [] n (x :: H) ts [] l Rs F i o :=
  h.imp id fun h => h.imp id fun h a w st hk hd => h a w (st.heap (List.sublist_cons_self _ _)) hk hd
theorem draw_beta {w1 : World} {l : List Oper} {Rs : Nat → Nat → RSpec} {ob : Nat → Obj} {c dc : Nat} {oc : Oper} (hsel : ∀ (j : Nat) (o : Oper) cs b, l.toArray[j]? = some o → o.op ≠ .select cs b) (hok : ∀ i oi, l[i]? = some oi → Fits n ts [] l i oi)
    (hc : l[c]? = some oc) (hcp : isPure oc = false) (hct : isTail ts [] l c = false) (hcg : oc.guard = none) (hcd : oc.dst = some dc)
    (hind : ∀ i o, l[i]? = some o → edgeN l 8 i c = true ∨ i = c ∨ ∀ β β', Rs β i = Rs β' i)
    (hobs : ∀ β i o, l[i]? = some o → i = c ∨ Ob P w0 w1 D [] n H ts [] l (Rs β) F i o)
    (hcall : ∀ a w, St w0 D n (baseFr l c F) H a w → Keeps [] w1 w → (∀ j, edgeB l c j = true → Done l (Rs 0) a w j) →
      oc.wp P a w (fun a' w' => ∃ v β, a' = a.put oc.dst v ∧ Keeps [] w w' ∧ (Rs β c).R v w' ∧ (Rs β c).blk v = [] ∧ w'.heap[β]? = some (ob β) ∧ w.heap.size ≤ β) (fun _ _ _ => False))
    (hQ : ∀ c a w, ¬ Q (.panic c) a w)
    (fin : ∀ β a w, St w0 D n (endFr ts [] l F) ((β, ob β) :: H) a w → Keeps [] w1 w → (∀ i o, l[i]? = some o → isTail ts [] l i = false → isEarly [] i = false → Done l (Rs β) a w i) →
      (∀ i j, i ≠ j → ∀ oi oj di dj vi vj b, l[i]? = some oi → l[j]? = some oj → isTail ts [] l i = false → isTail ts [] l j = false → oi.dst = some di → oj.dst = some dj → a.tmps[di]? = some vi → a.tmps[dj]? = some vj → b ∈ (Rs β i).blk vi → b ∉ (Rs β j).blk vj) →
      (∀ i oi di vi b, l[i]? = some oi → isTail ts [] l i = false → oi.dst = some di → a.tmps[di]? = some vi → b ∈ (Rs β i).blk vi → b ∉ ([] : List Nat) ∧ b ∉ ((β, ob β) :: H).map Prod.fst ∧ w0.heap.size ≤ b) →
      Wt P Q l (storeIdx ts [] l).length (storeIdx ts [] l) a w) :
    ∀ (fuel : Nat) (listed : Array Bool) (a : Act) (w : World), fuel + cnt l.length listed = l.length → listed.getD c false = false → (∀ β, DInv w0 w1 D n [] H ts [] l (Rs β) F listed a w) → wpAny P .any l.toArray Q fuel listed a w := by
  intro fuel
  have hclt : c < l.length := (List.getElem?_eq_some_iff.1 hc).1
  induction fuel with
  | zero =>
    intro listed a w hf hcl iv
    have hfull := cnt_full (m := l.length) (listed := listed) (by omega)
    rw [hfull c hclt] at hcl; cases hcl
  | succ fuel ih =>
    intro listed a w hf hcl ivs
    have iv := ivs 0
    have hex : ∃ j, (∃ o, l[j]? = some o ∧ isTail ts [] l j = false ∧ listed.getD j false = false) ∧ ∀ k, k < j → ∀ o, l[k]? = some o → isTail ts [] l k = false → listed.getD k false = true := by
      have hne : ∃ j, ∃ o, l[j]? = some o ∧ isTail ts [] l j = false ∧ listed.getD j false = false := ⟨c, oc, hc, hct, hcl⟩
      obtain ⟨j, hj⟩ := hne
      induction j using Nat.strongRecOn with
      | _ j ihj =>
        by_cases hall : ∀ k, k < j → ∀ o, l[k]? = some o → isTail ts [] l k = false → listed.getD k false = true
        · exact ⟨j, hj, hall⟩
        · have : ∃ k, k < j ∧ ∃ o, l[k]? = some o ∧ isTail ts [] l k = false ∧ listed.getD k false = false := by
            refine Classical.byContradiction fun hno => hall fun k hk o ho hs => ?_
            cases hx : listed.getD k false with
            | true => rfl
            | false => exact absurd ⟨k, hk, o, ho, hs, hx⟩ hno
          obtain ⟨k, hk, hk2⟩ := this
          exact ihj k hk hk2
    obtain ⟨j, ⟨oj, hj, hjs, hju⟩, hmin⟩ := hex
    have hjlt : j < l.length := (List.getElem?_eq_some_iff.1 hj).1
    have hjready : j ∈ Region.ready .any l.toArray listed := by
      refine mem_ready.2 ⟨getD_in (by rw [iv.lsz]; exact hjlt) hju, oj, by simpa using hj, fun e he hb => ?_⟩
      have hbk := (hok j oj hj).back e he hb
      exact hmin e.on hbk _ (List.getElem?_eq_getElem (show e.on < l.length by omega)) ((hok j oj hj).noS hjs e he hb)
    have facts : ∀ β i o, i ∈ Region.ready .any l.toArray listed → l[i]? = some o → St w0 D n (baseFr l i F) H a w ∧ ∀ k, edgeB l i k = true → isEarly [] k = false → Done l (Rs β) a w k := by
      intro β i o hi ho
      have iv := ivs β
      obtain ⟨hu, o', ho', hall⟩ := mem_ready.1 hi
      have : o' = o := by
        have h1 : l[i]? = some o' := by simpa using ho'
        rw [ho] at h1; cases h1; rfl
      subst this
      refine ⟨⟨iv.base.size, iv.base.dfr, fun t v ht => ?_, iv.base.hp, iv.base.own, iv.base.nd, iv.base.keeps⟩, fun k hk hne => iv.res k (edge_listed ho hall hk) hne⟩
      obtain ⟨h1, h2⟩ := lookup_filter _ (fun _ _ _ => rfl) F t v ht
      refine iv.keepF t v h1 fun k ok hk hl hd => ?_
      have h3 := List.all_eq_true.1 h2 k (List.mem_range.2 (List.getElem?_eq_some_iff.1 hk).1)
      simp only [hk, Bool.or_eq_true, beq_iff_eq, bne_iff_ne, ne_eq] at h3
      rcases h3 with h3 | h3 | h3
      · subst h3; rw [getD_both hu] at hl; cases hl
      · exact h3 hd
      · have h4 := iv.waits k i hl h3
        rw [getD_both hu] at h4; cases h4
    have key : ∀ (m f k : Nat), edgeN l f k m = true → listed.getD k false = true → listed.getD m false = true := by
      intro m f
      induction f with
      | zero => intro k hk hl; exact iv.waits k m hl hk
      | succ f ihf =>
        intro k hk hl
        unfold edgeN at hk
        rw [Bool.or_eq_true] at hk
        rcases hk with hk | hk
        · exact iv.waits k m hl hk
        · obtain ⟨m', _, hm⟩ := List.any_eq_true.1 hk
          rw [Bool.and_eq_true] at hm
          exact ihf m' hm.2 (iv.waits k m' hl hm.1)
    have key2 : ∀ (m i : Nat) (o : Oper), l[i]? = some o → (∀ e ∈ o.after, Region.binds .any e = true → listed.getD e.on false = true) → edgeN l 8 i m = true → listed.getD m false = true := by
      intro m i o ho hall h2
      unfold edgeN at h2
      rw [Bool.or_eq_true] at h2
      rcases h2 with h2 | h2
      · exact edge_listed ho hall h2
      · obtain ⟨k, _, hk2⟩ := List.any_eq_true.1 h2
        rw [Bool.and_eq_true] at hk2
        exact key m 7 k hk2.2 (edge_listed ho hall hk2.1)
    -- what is ready, and not the call, is told without the block
    have same : ∀ i o, l[i]? = some o → (∀ e ∈ o.after, Region.binds .any e = true → listed.getD e.on false = true) → i ≠ c → ∀ β, Rs β i = Rs 0 i := by
      intro i o ho hall hne β
      rcases hind i o ho with h | h | h
      · rw [key2 c i o ho hall h] at hcl; cases hcl
      · exact absurd h hne
      · exact h β 0
    have next : ∀ i, i ≠ c → (listed.setIfInBounds i true).getD c false = false := fun i hne => by rw [getD_set_ne false hne]; exact hcl
    by_cases hp : ∃ i o, i ∈ Region.ready .any l.toArray listed ∧ l[i]? = some o ∧ isPure o = true ∧ isTail ts [] l i = false
    · obtain ⟨i, o, hi, ho, hpo, hs⟩ := hp
      obtain ⟨hu, o', ho', hall⟩ := mem_ready.1 hi
      have : o' = o := by
        have h1 : l[i]? = some o' := by simpa using ho'
        rw [ho] at h1; cases h1; rfl
      subst this
      have hne : i ≠ c := fun e => by subst e; rw [hc] at ho; cases ho; rw [hcp] at hpo; cases hpo
      have hlt : i < l.length := (List.getElem?_eq_some_iff.1 ho).1
      obtain ⟨hst, hdn⟩ := facts 0 i o' hi ho
      obtain ⟨d, hd, hn⟩ := (hok i o' ho).dst hs rfl
      rcases (hobs 0 i o' ho).resolve_left hne with hob | hob | hob
      · rw [hs] at hob; cases hob
      · cases hob
      · have h1 := hob a w hst iv.from1 hdn
        rw [if_pos hpo] at h1
        obtain ⟨v, hy, hR, hb⟩ := h1
        refine wpAny_first (oi := o') (v := v) ho' hsel (fun c a w h => (hQ _ _ _ h).elim) fuel listed a w (fun k ok hk hne hun hno => ?_) hi hy ?_
        · have hk' : l[k]? = some ok := by simpa using hk
          rcases (hok i o' ho).pure hpo hs k ok hk' hne with h2 | h2 | h2
          · unfold edgeB at h2
            rw [hk'] at h2
            obtain ⟨e, hm, hbb⟩ := List.any_eq_true.1 h2
            simp only [Bool.and_eq_true, beq_iff_eq] at hbb
            exact absurd hbb.2 (hno e (Array.mem_toList_iff.1 hm) hbb.1)
          · have := edge_listed ho hall h2
            rw [getD_both hun] at this; cases this
          · exact h2
        · have hcn := cnt_set iv.lsz hlt (getD_both hu)
          exact ih _ _ _ (by omega) (next i hne) fun β => (ivs β).put hok (by simp) ho hs (getD_both hu) hd hn (Keeps.refl _ _) (by rw [same i o' ho hall hne β]; exact hR) hall (fun b hbb => by rw [same i o' ho hall hne β, hb] at hbb; cases hbb)
    · refine ⟨fun h0 => (by rw [h0] at hjready; cases hjready), fun i hi => ?_⟩
      obtain ⟨hu, o, hoA, hall⟩ := mem_ready.1 hi
      have ho : l[i]? = some o := by simpa using hoA
      have hlt : i < l.length := (List.getElem?_eq_some_iff.1 ho).1
      have hs : isTail ts [] l i = false := by
        cases hx : isTail ts [] l i with
        | false => rfl
        | true =>
          have hji : j ≠ i := fun e => by subst e; rw [hjs] at hx; cases hx
          rcases (hok i o ho).store hx j oj hj hji with h2 | h2 | h2
          · exact absurd ⟨j, oj, hjready, hj, h2.1, hjs⟩ hp
          · rw [hjs] at h2; cases h2
          · have h3 := key2 j i o ho hall h2
            rw [hju] at h3; cases h3
      obtain ⟨hst, hdn⟩ := facts 0 i o hi ho
      have hcn := cnt_set iv.lsz hlt (getD_both hu)
      have hnp : isPure o = false := by
        cases hx : isPure o with
        | false => rfl
        | true => exact absurd ⟨i, o, hi, ho, hx, hs⟩ hp
      obtain ⟨d, hd, hn⟩ := (hok i o ho).dst hs rfl
      by_cases hic : i = c
      · subst hic
        rw [hc] at ho; cases ho
        unfold wpOp
        simp only [hoA]
        rw [if_pos (by simp [Region.wanted, hcg])]
        refine .inl (Oper.wp_quiet (hcall a w hst iv.from1 (fun k hk => hdn k hk rfl)) fun a' w' ⟨v, β, e, hk, hR, hb, hβ, hge⟩ => ?_)
        subst e
        have iv1 := ivs β
        have iv2 := iv1.put hok (by simp) hc hs (getD_both hu) hd hn hk hR hall (fun b hbb => by rw [hb] at hbb; cases hbb)
        have hfr := iv1.base.fresh hge
        have hsz := iv1.base.keeps.size
        have iv3 : DInv w0 w1 D n [] ((β, ob β) :: H) ts [] l (Rs β) F (listed.setIfInBounds i true) (a.put oc.dst v) w' := by
          refine ⟨iv2.lsz, iv2.noStore, iv2.waits, iv2.base.add hβ ⟨hfr, by omega⟩, iv2.from1, iv2.keepF, iv2.res, iv2.apart, fun p op dp vp b hlp lp ep tp bp => ?_, iv2.hb, fun e _ he => (by cases he), fun e he => (by cases he)⟩
          have h1 := iv2.old p op dp vp b hlp lp ep tp bp
          refine ⟨h1.1, h1.2.1, ?_, h1.2.2.2⟩
          rw [List.map_cons, List.mem_cons, not_or]
          refine ⟨fun e => ?_, h1.2.2.1⟩
          by_cases hpi : p = i
          · subst hpi
            rw [hc] at lp; cases lp
            rw [hd] at ep; cases ep
            have self : (a.put oc.dst v).tmps[d]? = some v := by
              rw [hd]
              show (a.tmps.setIfInBounds d v)[d]? = _
              have : d < a.tmps.size := by rw [iv1.base.size]; exact hn
              simp [this]
            rw [self] at tp; cases tp
            rw [hb] at bp; cases bp
          · have hlp' : listed.getD p false = true := by rw [getD_set_ne false (Ne.symm hpi)] at hlp; exact hlp
            have tp' : a.tmps[dp]? = some vp := by
              rw [← tp, hd]
              show _ = (a.tmps.setIfInBounds d v)[dp]?
              rw [Array.getElem?_setIfInBounds_ne]
              intro e2
              subst e2
              rcases (hok i oc hc).ne p op lp hpi with h | h
              · rw [hd] at h; cases h
              · rw [hd, ep] at h; exact h rfl
            have h2 := iv1.old p op dp vp b hlp' lp ep tp' bp
            have h3 : b < w.heap.size := h2.1
            have h4 : b = β := e
            omega
        refine draw_main (w0 := w0) (D := D) (n := n) (F := F) (H := (β, ob β) :: H) (w1 := w1) (HB := []) (Rs := Rs β) (S := fun k => k = i) hsel hok (by simp) (by simp) (by simp) (by simp) (by simp) (by simp) (fun k o ho => (hobs β k o ho).imp id Ob.more) hQ
          (fun a w s1 s2 s3 s4 s5 _ => fin β a w s1 s2 s3 s4 s5) fuel _ _ _ (by omega) (fun k hk => ?_) iv3
        subst hk
        simp [iv.lsz, hlt]
      · rcases (hobs 0 i o ho).resolve_left hic with hob | hob | hob
        · rw [hs] at hob; cases hob
        · cases hob
        · have h1 := hob a w hst iv.from1 hdn
          rw [hnp] at h1
          simp only [Bool.false_eq_true, if_false] at h1
          unfold wpOp
          simp only [hoA]
          split at h1
          · rename_i hw
            rw [if_pos hw]
            refine .inl (Oper.wp_quiet h1 fun a' w' ⟨v, e, hk, hR, hb⟩ => ?_)
            subst e
            exact ih _ _ _ (by omega) (next i hic) fun β => (ivs β).put hok (by simp) ho hs (getD_both hu) hd hn hk (by rw [same i o ho hall hic β]; exact hR) hall (by rw [same i o ho hall hic β]; exact hb)
          · rename_i hw
            rw [if_neg hw]
            exact ih _ _ _ (by omega) (next i hic) fun β => (ivs β).put hok (by simp) ho hs (getD_both hu) hd hn (Keeps.refl _ _) (by rw [same i o ho hall hic β]; exact h1.1) hall (fun b hbb => by rw [same i o ho hall hic β, h1.2] at hbb; cases hbb)
/-- What does not wait for the call is told without the block. -/
def Inds (l : List Oper) (c : Nat) (rs : Nat → List RS) : Nat → List Oper → Prop
  | _, [] => True
  | k, _ :: r => (edgeN l 8 k c = true ∨ k = c ∨ ∀ β, lookRs (rs β) k = lookRs (rs 0) k) ∧ Inds l c rs (k + 1) r
theorem Inds.get {l : List Oper} {c : Nat} {rs : Nat → List RS} : ∀ (r : List Oper) (k : Nat), Inds l c rs k r → ∀ i o, r[i]? = some o → edgeN l 8 (k + i) c = true ∨ k + i = c ∨ ∀ β, lookRs (rs β) (k + i) = lookRs (rs 0) (k + i)
  | [], _, _, i, o, h => by simp at h
  | x :: r, k, hs, 0, o, h => hs.1
  | x :: r, k, hs, i + 1, o, h => by
    simp at h
    have := Inds.get r (k + 1) hs.2 i o h
    rw [show k + (i + 1) = k + 1 + i by omega]; exact this
def ObsB (c : Nat) (P : Program) (w0 w1 : World) (D : List Nat) (n : Nat) (H : Hp) (ts : List Nat) (l : List Oper) (rs : List RS) (F : Fr) : Nat → List Oper → List RS → Prop
  | _, [], [] => True
  | i, o :: r, s :: t => (i = c ∨ Ob1 P w0 w1 D [] n H ts [] l rs F i o s) ∧ ObsB c P w0 w1 D n H ts l rs F (i + 1) r t
  | _, _, _ => False
theorem ObsB.get {c : Nat} {w1 : World} {l : List Oper} {rs : List RS} : ∀ (r : List Oper) (t : List RS) (k : Nat), ObsB c P w0 w1 D n H ts l rs F k r t → ∀ i o, r[i]? = some o → ∃ s, t[i]? = some s ∧ (k + i = c ∨ Ob1 P w0 w1 D [] n H ts [] l rs F (k + i) o s)
  | [], _, _, _, i, o, h => by simp at h
  | _ :: _, [], _, hs, _, _, _ => by simp [ObsB] at hs
  | x :: r, s :: t, k, hs, 0, o, h => by simp at h; subst h; exact ⟨s, rfl, hs.1⟩
  | x :: r, s :: t, k, hs, i + 1, o, h => by
    simp at h
    obtain ⟨u, h1, h2⟩ := ObsB.get r t (k + 1) hs.2 i o h
    exact ⟨u, by simpa using h1, by rw [show k + (i + 1) = k + 1 + i by omega]; exact h2⟩
theorem ObsB.len {c : Nat} {w1 : World} {l : List Oper} {rs : List RS} : ∀ (r : List Oper) (t : List RS) (k : Nat), ObsB c P w0 w1 D n H ts l rs F k r t → r.length = t.length
  | [], [], _, _ => rfl
  | [], _ :: _, _, h => by simp [ObsB] at h
  | _ :: _, [], _, h => by simp [ObsB] at h
  | x :: r, y :: t, k, h => by simp [ObsB.len r t (k + 1) h.2]
/-- What is to be shown of the call. -/
structure ObC (P : Program) (w0 w1 : World) (D : List Nat) (n : Nat) (H : Hp) (l : List Oper) (rs : List RS) (F : Fr) (c : Nat) (oc : Oper) (val : Nat → Value) (ob : Nat → Obj) : Prop where
  pu : isPure oc = false
  gd : oc.guard = none
  out : ∀ a w, St w0 D n (depFr l rs c ++ baseFr l c F) H a w → Keeps [] w1 w → ExDone l rs (fun j => edgeB l c j) a w →
    oc.wp P a w (fun a' w' => ∃ β, a' = a.put oc.dst (val β) ∧ Keeps [] w w' ∧ w'.heap[β]? = some (ob β) ∧ w.heap.size ≤ β) (fun _ _ _ => False)
theorem obc_call {w1 : World} {l : List Oper} {rs : List RS} {c : Nat} {o : Oper} {val : Nat → Value} {ob : Nat → Obj} {Fi : Fr} {f : FuncId} {xs : List Operand} {tys : Array TypeId} {args : List Value} {Post : World → Value → World → Prop} (ho : o.op = .call { callee := .value (.func f), args := xs.toArray, argTypes := tys })
    (hen : ∀ args w, (callFunc f args).run P w = .ok (.enter f args) w) (hg : o.guard = none) (hF : FrSub Fi (depFr l rs c ++ baseFr l c F))
    (ha : evAll Fi xs = some args)
    (h : ∀ a w, St w0 D n Fi H a w → Keeps [] w1 w → ExDone l rs (fun j => edgeB l c j) a w → Fn P f args w [] (Post w))
    (hp : ∀ w v w', Post w v w' → ∃ β, v = val β ∧ w'.heap[β]? = some (ob β) ∧ w.heap.size ≤ β) : ObC P w0 w1 D n H l rs F c o val ob := by
  have hpu : isPure o = false := by unfold isPure; rw [ho]
  refine ⟨hpu, hg, ?_⟩
  intro a w st hk hx
  have hrun : (execOp a.eval o).run P w = .ok (.enter f args.toArray) w := by
    unfold execOp
    simp only [ho, resolve, Deferred.ofValue, Act.eval, Sem.run_bind, Sem.run_pure, Result.andThen_ok, List.map_toArray, (st.frame hF.look).evAll ha, invoke, Array.append_empty, Array.empty_append, hen]
  unfold Oper.wp
  rw [hrun]
  refine Calls.mono (h a w (st.frame hF.look) hk hx) fun e w' he => ?_
  cases e with
  | returned v => obtain ⟨h1, h2⟩ := he; obtain ⟨β, rfl, h3, h4⟩ := hp w v w' h2; exact ⟨β, rfl, h1, h3, h4⟩
  | panicked c => exact he.elim
  | outgrown => exact he.elim
theorem x_drawB (st : St w0 D n F H a w) {id : Nat} {l : List Oper} {oc : Oper} {val : Nat → Value} {ob : Nat → Obj} (ts : List Nat) (c : Nat) (rs : Nat → List RS) (hm : P.follows .mixedOrders = true) (hok : (drawOk n ts [] l && !isTail ts [] l c) = true) (hc : l[c]? = some oc) (hcv : ∀ β, (rs β)[c]? = some (.det (val β)))
    (hind : Inds l c rs 0 l) (hcall : ObC P w0 w D n H l (rs 0) F c oc val ob) (hobs : ∀ β, ObsB c P w0 w D n H ts l (rs β) F 0 l (rs β))
    (fin : ∀ β a' w', Keeps [] w w' → St w0 D n (allFr ts [] l (rs β) ++ endFr ts [] l F) ((β, ob β) :: H) a' w' → DrawEnd w0 ((β, ob β) :: H) l (rs β) a' w' →
      Wt P (NP Q) l (storeIdx ts [] l).length (storeIdx ts [] l) a' w') :
    (Code.region id l.toArray true).wp P Q a w := by
  rw [Bool.and_eq_true, Bool.not_eq_true'] at hok
  obtain ⟨hok, hct⟩ := hok
  obtain ⟨hsel, hfits⟩ := drawOk_fits hok
  refine wp_mono (Q := NP Q) ?_ (fun e a w h => by cases e <;> first | exact h | exact h.elim)
  have specOf : ∀ (β i : Nat) (o : Oper), l[i]? = some o → ∃ s, (rs β)[i]? = some s ∧ (i = c ∨ Ob1 P w0 w D [] n H ts [] l (rs β) F i o s) := fun β i o ho => by
    have := ObsB.get l (rs β) 0 (hobs β) i o ho
    simpa using this
  have lk : ∀ (β i : Nat) (s : RS), (rs β)[i]? = some s → lookRs (rs β) i = s.to := fun β i s h => by unfold lookRs; rw [h]
  have lens : ∀ (β i : Nat) (s : RS), (rs β)[i]? = some s → ∃ o, l[i]? = some o := by
    intro β i s hs
    have hl := ObsB.len _ _ _ (hobs β)
    have hlt := (List.getElem?_eq_some_iff.1 hs).1
    exact ⟨_, List.getElem?_eq_getElem (by omega)⟩
  have nst : ∀ (β j : Nat) (s : RSpec), (rs β)[j]? = some (.spec s) → isTail ts [] l j = false := fun β j s hr => by
    cases hx : isOff ts [] l j with
    | false => unfold isOff at hx; simp at hx; exact hx.1
    | true =>
      obtain ⟨oj, hj⟩ := lens β j _ hr
      obtain ⟨s', hs', hob⟩ := specOf β j oj hj
      rw [hr] at hs'; cases hs'
      rcases hob with rfl | hob
      · rw [hcv β] at hr; cases hr
      replace hob := hob.out
      unfold Ob1core at hob
      rw [if_pos hx] at hob
      obtain ⟨v, hv⟩ := hob
      cases hv
  have dep : ∀ (β i : Nat) (a : Act) (w' : World), (∀ j, edgeB l i j = true → Done l (lookRs (rs β)) a w' j) → (∀ t v, (depFr l (rs β) i).lookup t = some v → a.tmps[t]? = some v) ∧ ExDone l (rs β) (fun j => edgeB l i j) a w' := by
    intro β i a w' hdone
    refine ⟨fun t v ht => ?_, fun j s' hr hp => ?_⟩
    · obtain ⟨j, oj, hj, hrj, hd, hp⟩ := detFr_spec _ l (rs β) 0 t v ht
      obtain ⟨oj', d, u, e1, e2, e3, e4⟩ := hdone j (by simpa using hp)
      rw [hj] at e1; cases e1
      rw [hd] at e2; cases e2
      rw [lk β j _ hrj] at e4
      cases e4
      exact e3
    · obtain ⟨oj', d, u, e1, e2, e3, e4⟩ := hdone j hp
      rw [lk β j _ hr] at e4
      exact ⟨oj', d, u, e1, e2, e3, e4⟩
  refine wp_region_any hm ?_
  rw [List.size_toArray]
  have hcd : ∃ dc, oc.dst = some dc := by
    obtain ⟨d, hd, _⟩ := (hfits c oc hc).dst hct rfl
    exact ⟨d, hd⟩
  obtain ⟨dc, hcd⟩ := hcd
  refine draw_beta (w0 := w0) (D := D) (n := n) (F := F) (H := H) (w1 := w) (Rs := fun β => lookRs (rs β)) (ob := ob) hsel hfits hc hcall.pu hct hcall.gd hcd (fun i o ho => ?_) (fun β i o ho => ?_) (fun a' w' st' hk hdone => ?_) (fun _ _ _ h => h) (fun β a' w' st' hk hdone hap hold => ?_) l.length _ a _ ?_ ?_ (fun β => ?_)
  · have := Inds.get l 0 hind i o ho
    rw [Nat.zero_add] at this
    exact this.imp (fun x => x) fun h => h.imp (fun x => x) fun h β β' => (h β).trans (h β').symm
  · obtain ⟨s, hs, hob⟩ := specOf β i o ho
    refine hob.imp (fun x => x) fun hob => ?_
    replace hob := hob.out
    unfold Ob1core at hob
    by_cases hx : isOff ts [] l i = true
    · unfold isOff at hx
      rw [Bool.or_eq_true] at hx
      exact hx.elim .inl fun h => .inr (.inl h)
    · rw [if_neg hx] at hob
      refine .inr (.inr fun a' w' st' hk hdone => ?_)
      obtain ⟨h1, h2⟩ := dep β i a' w' (fun j hj => hdone j hj rfl)
      have h3 := hob a' w' (st'.append h1) hk h2
      show if isPure o then ∃ v, Yields P l.toArray o v a' ∧ (lookRs (rs β) i).R v w' ∧ (lookRs (rs β) i).blk v = [] else _
      rw [lk β i s hs]
      exact h3
  · obtain ⟨h1, h2⟩ := dep 0 c a' w' hdone
    refine Oper.wp_quiet (hcall.out a' w' (st'.append h1) hk h2) fun a'' w'' ⟨β, e1, e2, e3, e4⟩ => ⟨val β, β, e1, e2, ?_, ?_, e3, e4⟩
    · show (lookRs (rs β) c).R _ _
      rw [lk β c _ (hcv β)]; exact rfl
    · show (lookRs (rs β) c).blk _ = _
      rw [lk β c _ (hcv β)]; rfl
  · have stF : St w0 D n (allFr ts [] l (rs β) ++ endFr ts [] l F) ((β, ob β) :: H) a' w' := st'.append fun t v ht => by
      obtain ⟨j, oj, hj, hrj, hd, hnt⟩ := detFr_spec _ l (rs β) 0 t v ht
      obtain ⟨oj', d, u, e1, e2, e3, e4⟩ := hdone j oj hj (by simpa using hnt) rfl
      rw [hj] at e1; cases e1
      rw [hd] at e2; cases e2
      have e5 : (lookRs (rs β) j).R u w' := e4
      rw [lk β j _ hrj] at e5
      cases e5
      exact e3
    refine fin β a' w' hk stF ⟨fun j s hr _ => ?_, fun i j hne s t di dj vi vj b h1 h2 h3 h4 h5 h6 h7 => ?_, fun i s di vi b h1 h3 h5 h7 => ?_⟩
    · obtain ⟨oj, hj⟩ := lens β j _ hr
      obtain ⟨oj', d, u, e1, e2, e3, e4⟩ := hdone j oj hj (nst β j s hr) rfl
      have e5 : (lookRs (rs β) j).R u w' := e4
      rw [lk β j _ hr] at e5
      exact ⟨oj', d, u, e1, e2, e3, e5⟩
    · obtain ⟨oi, hi⟩ := lens β i _ h1
      obtain ⟨oj, hj⟩ := lens β j _ h2
      rw [hi, Option.bind_some] at h3
      rw [hj, Option.bind_some] at h4
      have := hap i j hne oi oj di dj vi vj b hi hj (nst β i s h1) (nst β j t h2) h3 h4 h5 h6
      rw [lk β i _ h1, lk β j _ h2] at this
      exact this h7
    · obtain ⟨oi, hi⟩ := lens β i _ h1
      rw [hi, Option.bind_some] at h3
      have := hold i oi di vi b hi (nst β i s h1) h3 h5
      rw [lk β i _ h1] at this
      exact (this h7).2
  · have : cnt l.length (Array.replicate l.length false) = 0 := by
      unfold cnt
      rw [List.countP_eq_zero]
      intro i hi
      have := List.mem_range.1 hi
      simp [this]
    omega
  · have := (List.getElem?_eq_some_iff.1 hc).1
    simp [this]
  · have nl : ∀ i, (Array.replicate l.length false).getD i false = true → False := fun i hi => by
      revert hi; by_cases h : i < l.length <;> simp [h]
    refine ⟨by simp, fun i _ => ?_, fun k i hk => (nl k hk).elim, ?_, (Keeps.refl _ w).drew, fun t v ht _ => st.fr t v ht, fun i hi => (nl i hi).elim, fun i j _ _ _ _ _ _ _ _ hi => (nl i hi).elim, fun i _ _ _ _ hi => (nl i hi).elim, fun h b ob hb => (by cases hb), fun e h he => (by cases he), fun e he => (by cases he)⟩
    · by_cases h : i < l.length <;> simp [h]
    · exact ⟨st.size, st.dfr, fun _ _ h => by simp at h, st.hp, st.own, st.nd, st.keeps.drew⟩
end Go.Proofs.YtnkbhmonceiocaaDoor
