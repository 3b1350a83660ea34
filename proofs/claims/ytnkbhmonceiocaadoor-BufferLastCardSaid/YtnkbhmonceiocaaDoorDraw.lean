/-
  A region that draws its order, in the small logic of Core: each operation is shown once, in whatever world has come by then; the stores stand behind all else. No program text stands in it.
-/
import Derived.Test.YtnkbhmonceiocaaDoorOps2
namespace Go.Proofs.YtnkbhmonceiocaaDoor
open Go Go.RowKit
variable {P : Program} {w0 : World} {D : List Nat} {n : Nat} {F : Fr} {H : Hp} {a : Act} {w : World}
variable {Q : Exit → Act → World → Prop}

/-- What is known of an operation's value, in every later world; and the block that it has made, if one. -/
structure RSpec where
  R : Value → World → Prop
  blk : Value → List Nat
  mono : ∀ v w w' X, R v w → Keeps X w w' → (∀ b, b ∈ blk v → b ∉ X) → R v w'
def RSpec.det (v : Value) : RSpec := ⟨fun u _ => u = v, fun _ => [], fun _ _ _ _ h _ _ => h⟩
def RSpec.any : RSpec := ⟨fun _ _ => True, fun _ => [], fun _ _ _ _ h _ _ => h⟩
def ptrBlk : Value → List Nat
  | .pointer (some ad) => [ad.block]
  | _ => []
/-- A new variable. -/
def RSpec.new (ob : Obj) : RSpec := ⟨fun u w => ∃ b, u = .pointer (some ⟨b, 0, none⟩) ∧ w.heap[b]? = some ob, ptrBlk, fun _ _ _ _ ⟨b, e, h⟩ hk hb => ⟨b, e, hk.get h (hb b (by subst e; simp [ptrBlk]))⟩⟩
/-- A new variable, whatever it holds. -/
def RSpec.cell (ty : TypeId) (sz : Nat) : RSpec := ⟨fun u w => ∃ b cs, u = .pointer (some ⟨b, 0, none⟩) ∧ w.heap[b]? = some (.cells cs ty (0, 0)) ∧ cs.size = sz, ptrBlk, fun _ _ _ _ ⟨b, cs, e, h, hs⟩ hk hb => ⟨b, cs, e, hk.get h (hb b (by subst e; simp [ptrBlk])), hs⟩⟩

/-- A store that need not wait: its place, the slots of its pointer and of its value, the operation that tells the value, the one that makes the variable or the place of the variable among the own ones, its type and size. -/
structure Early where
  i : Nat
  d : Nat
  s : Nat
  k : Nat
  al : Nat ⊕ Nat
  ty : TypeId
  sz : Nat
deriving DecidableEq

def edgeB (l : List Oper) (i j : Nat) : Bool := match l[i]? with
  | some o => o.after.toList.any fun e => Region.binds .any e && e.on == j
  | none => false
def isStore (o : Oper) : Bool := match o.op with | .store .. => true | _ => false
/-- May the operation be done at any time, once it is ready? -/
def isPure (o : Oper) : Bool := match o.op with | .nilCheck _ | .move _ | .assign _ | .pick .. | .extract .. | .unOp .. | .indexAddr .. | .fieldAddr .. | .binOp .. | .convert .. | .slice .. | .field .. | .index .. | .build .. => true | _ => false

/-- The stores, and what waits for one. -/
def tails (ts : List Nat) (es : List Early) (l : List Oper) : List Nat :=
  (List.range l.length).foldl (fun acc i => match l[i]? with
    | some o => if (isStore o && !(es.any fun e => e.i == i)) || ts.contains i || o.after.toList.any (fun e => Region.binds .any e && acc.contains e.on) then acc ++ [i] else acc
    | none => acc) []
def isTail (ts : List Nat) (es : List Early) (l : List Oper) (i : Nat) : Bool := (tails ts es l).contains i
def isEarly (es : List Early) (i : Nat) : Bool := es.any fun e => e.i == i
def isOff (ts : List Nat) (es : List Early) (l : List Oper) (i : Nat) : Bool := isTail ts es l i || isEarly es i
def dstOf (l : List Oper) (j : Nat) : Option Nat := (l[j]?).bind (·.dst)
variable {ts : List Nat} {es : List Early} {B : List Nat} {HB : Hp}
/-- What is asked of an early store's text. -/
def earlyOk (ts : List Nat) (es : List Early) (l : List Oper) (e : Early) : Bool :=
  match l[e.i]? with
  | some o => (match o.op with | .store t (.tmp d) (.tmp s) => t == e.ty && d == e.d && s == e.s | _ => false) && o.guard.isNone && o.dst.isNone && !isTail ts es l e.i &&
      edgeB l e.i e.k && dstOf l e.k == some e.s &&
      (match e.al with
        | .inl k => edgeB l e.i k && dstOf l k == some e.d
        | .inr _ => (List.range l.length).all fun j => dstOf l j != some e.d)
  | none => false
def earlies (ts : List Nat) (es : List Early) (l : List Oper) : Bool :=
  (es.all fun e => earlyOk ts es l e) && (es.all fun e => es.all fun e' => decide (e = e') || (e.i != e'.i && decide (e.al ≠ e'.al)))
/-- An edge, or two. -/
def edgeN (l : List Oper) : Nat → Nat → Nat → Bool
  | 0, i, j => edgeB l i j
  | f + 1, i, j => edgeB l i j || (List.range l.length).any fun k => edgeB l i k && edgeN l f k j
def edge2 (l : List Oper) (i j : Nat) : Bool := edgeN l 8 i j
/-- What the rule asks of a region's text: decided by reckoning. -/
def drawOk (n : Nat) (ts : List Nat) (es : List Early) (l : List Oper) : Bool :=
  (l.all fun o => match o.op with | .select .. => false | _ => true) &&
  ((List.range l.length).all fun i => match l[i]? with
    | none => false
    | some oi =>
      (isTail ts es l i || isEarly es i || (match oi.dst with | some d => decide (d < n) | none => false)) &&
      (oi.after.toList.all fun e => !Region.binds .any e || decide (e.on < i)) &&
      -- edges of what is no store go back, to what is no store
      (isTail ts es l i || oi.after.toList.all fun e => !Region.binds .any e || !isTail ts es l e.on) &&
      (List.range l.length).all fun j => j == i || match l[j]? with
        | none => false
        | some oj =>
          -- no two write one slot
          (oi.dst.isNone || oi.dst != oj.dst) &&
          -- what is pure stands in nobody's way
          (!isPure oi || isTail ts es l i || edgeB l j i || edgeB l i j || oi.apart l.toArray oj) &&
          -- a store waits for all that is neither pure nor a store, and for the stores ahead of it
          (!isTail ts es l i || (isPure oj && !isTail ts es l j) || isTail ts es l j || edge2 l i j))

/-- The slots of F that still hold what they held, when operation i is done. -/
def baseFr (l : List Oper) (i : Nat) (F : Fr) : Fr :=
  F.filter fun p => (List.range l.length).all fun k => k == i || match l[k]? with
    | some ok => ok.dst != some p.1 || edgeB l k i
    | none => true
/-- The slots of F that no operation writes. -/
def endFr (ts : List Nat) (es : List Early) (l : List Oper) (F : Fr) : Fr :=
  F.filter fun p => (List.range l.length).all fun k => match l[k]? with
    | some ok => ok.dst != some p.1 || isTail ts es l k
    | none => true

def Done (l : List Oper) (Rs : Nat → RSpec) (a : Act) (w : World) (j : Nat) : Prop := ∃ oj d v, l[j]? = some oj ∧ oj.dst = some d ∧ a.tmps[d]? = some v ∧ (Rs j).R v w

/-- What is to be shown of operation i. -/
def Ob (P : Program) (w0 w1 : World) (D B : List Nat) (n : Nat) (H : Hp) (ts : List Nat) (es : List Early) (l : List Oper) (Rs : Nat → RSpec) (F : Fr) (i : Nat) (o : Oper) : Prop :=
  isTail ts es l i = true ∨ isEarly es i = true ∨ ∀ a w, St w0 D n (baseFr l i F) H a w → Keeps B w1 w → (∀ j, edgeB l i j = true → isEarly es j = false → Done l Rs a w j) →
    if isPure o then ∃ v, Yields P l.toArray o v a ∧ (Rs i).R v w ∧ (Rs i).blk v = []
    else if Region.wanted o (yielded l.toArray a.tmps) then
      o.wp P a w (fun a' w' => ∃ v, a' = a.put o.dst v ∧ Keeps [] w w' ∧ (Rs i).R v w' ∧ ∀ b, b ∈ (Rs i).blk v → w.heap.size ≤ b ∧ b < w'.heap.size) (fun _ _ _ => False)
    else (Rs i).R undef w ∧ (Rs i).blk undef = []
theorem Oper.wp_quiet {o : Oper} {K K' : Act → World → Prop} (h : o.wp P a w K (fun _ _ _ => False)) (hk : ∀ a w, K a w → K' a w) : o.wp P a w K' Q := by
  unfold Oper.wp at *
  generalize (execOp a.eval o).run P w = r at *
  cases r with
  | ok m w' =>
    cases m <;> simp only [Oper.upon] at h ⊢ <;>
      first
        | exact hk _ _ h
        | exact Calls.mono h (fun e w'' he => by
            cases e with
            | returned v => exact hk _ _ he
            | panicked c => exact he.elim
            | outgrown => obtain ⟨_, _, hf⟩ := he; exact hf.elim)
        | exact Rows.mono h (fun _ _ he => hk _ _ he)
  | halt x w' => cases x <;> simp only [Oper.upon] at h ⊢

theorem lookup_filter (p : Nat × Value → Bool) (hp : ∀ t u v, p (t, u) = p (t, v)) : ∀ (F : Fr) (t : Nat) (v : Value), (F.filter p).lookup t = some v → F.lookup t = some v ∧ p (t, v) = true
  | [], t, v, h => by simp at h
  | (d, u) :: F, t, v, h => by
    rw [List.filter_cons] at h
    by_cases hpu : p (d, u) = true
    · rw [if_pos hpu, lookup_cons] at h
      rw [lookup_cons]
      by_cases e : t = d
      · subst e; rw [if_pos rfl] at h ⊢; cases h; exact ⟨rfl, hpu⟩
      · rw [if_neg e] at h ⊢; exact lookup_filter p hp F t v h
    · rw [if_neg hpu] at h
      obtain ⟨h1, h2⟩ := lookup_filter p hp F t v h
      refine ⟨?_, h2⟩
      rw [lookup_cons]
      by_cases e : t = d
      · subst e; rw [hp t v u] at h2; exact absurd h2 hpu
      · rw [if_neg e]; exact h1

theorem getD_both {listed : Array Bool} {i : Nat} (h : listed.getD i true = false) : listed.getD i false = false := by
  rcases Nat.lt_or_ge i listed.size with h' | h'
  · simp [h'] at h ⊢; exact h
  · simp [Array.getElem?_eq_none h'] at h
theorem getD_in {listed : Array Bool} {i : Nat} (hi : i < listed.size) (h : listed.getD i false = false) : listed.getD i true = false := by
  simp [hi] at h ⊢; exact h
/-- How many are listed. -/
def cnt (m : Nat) (listed : Array Bool) : Nat := (List.range m).countP (fun i => listed.getD i false)
theorem cnt_le (m : Nat) (listed : Array Bool) : cnt m listed ≤ m := by
  have := List.countP_le_length (p := fun i => listed.getD i false) (l := List.range m)
  simpa [cnt] using this
theorem cnt_set {m i : Nat} {listed : Array Bool} (hs : listed.size = m) (hi : i < m) (hu : listed.getD i false = false) : cnt m (listed.setIfInBounds i true) = cnt m listed + 1 := by
  unfold cnt
  have key : ∀ k, k ≤ m → (List.range k).countP (fun j => (listed.setIfInBounds i true).getD j false) = (List.range k).countP (fun j => listed.getD j false) + if i < k then 1 else 0 := by
    intro k
    induction k with
    | zero => intro _; simp
    | succ k ih =>
      intro hk
      rw [List.range_succ, List.countP_append, List.countP_append, ih (by omega)]
      by_cases e : i = k
      · subst e
        have h1 : (listed.setIfInBounds i true).getD i false = true := by simp [hs, hi]
        simp only [List.countP_singleton, h1, hu]
        simp
      · have h1 : (listed.setIfInBounds i true).getD k false = listed.getD k false := getD_set_ne false e
        simp only [List.countP_singleton, h1]
        by_cases h2 : i < k
        · have : i < k + 1 := by omega
          simp [h2, this]; omega
        · have : ¬ i < k + 1 := by omega
          simp [h2, this]
  rw [key m (Nat.le_refl _), if_pos hi]
theorem cnt_full {m : Nat} {listed : Array Bool} (h : cnt m listed = m) : ∀ i, i < m → listed.getD i false = true := by
  intro i hi
  unfold cnt at h
  have h2 : (List.range m).countP (fun i => listed.getD i false) = (List.range m).length := by simpa using h
  exact (List.countP_eq_length.1 h2) i (by simpa using hi)

structure EText (ts : List Nat) (es : List Early) (l : List Oper) (e : Early) : Prop where
  o : ∃ o, l[e.i]? = some o ∧ o.op = .store e.ty (.tmp e.d) (.tmp e.s) ∧ o.guard = none ∧ o.dst = none
  nt : isTail ts es l e.i = false
  ek : edgeB l e.i e.k = true
  sk : dstOf l e.k = some e.s
  al : match e.al with
    | .inl k => edgeB l e.i k = true ∧ dstOf l k = some e.d
    | .inr _ => ∀ (j : Nat) o, l[j]? = some o → o.dst ≠ some e.d
theorem earlyOk_text {l : List Oper} {e : Early} (h : earlyOk ts es l e = true) : EText ts es l e := by
  unfold earlyOk at h
  cases ho : l[e.i]? with
  | none => rw [ho] at h; cases h
  | some o =>
    rw [ho] at h
    simp only [Bool.and_eq_true] at h
    obtain ⟨⟨⟨⟨⟨⟨h1, h2⟩, h3⟩, h4⟩, h5⟩, h6⟩, h7⟩ := h
    refine ⟨⟨o, ho, ?_, by simpa using h2, by simpa using h3⟩, by simpa using h4, h5, by simpa using h6, ?_⟩
    · cases hop : o.op with
      | store t x y =>
        rw [hop] at h1
        cases x <;> cases y <;> simp only [Bool.false_eq_true] at h1
        simp only [Bool.and_eq_true, beq_iff_eq] at h1
        obtain ⟨⟨rfl, rfl⟩, rfl⟩ := h1
        rfl
      | _ => rw [hop] at h1; cases h1
    · cases ha : e.al with
      | inl k => rw [ha] at h7; simp only [Bool.and_eq_true, beq_iff_eq] at h7; exact h7
      | inr k =>
        rw [ha] at h7
        intro j oj hj hd
        have h8 := List.all_eq_true.1 h7 j (List.mem_range.2 (List.getElem?_eq_some_iff.1 hj).1)
        simp [dstOf, hj, hd] at h8
theorem isEarly_of {e : Early} (he : e ∈ es) : isEarly es e.i = true := List.any_eq_true.2 ⟨e, he, by simp⟩
theorem early_of {i : Nat} (h : isEarly es i = true) : ∃ e, e ∈ es ∧ e.i = i := by
  obtain ⟨e, he, h⟩ := List.any_eq_true.1 h
  exact ⟨e, he, by simpa using h⟩
/-- What an early store leaves. -/
def Put (e : Early) (a : Act) (w : World) : Prop := ∃ b C, a.tmps[e.d]? = some (.pointer (some ⟨b, 0, none⟩)) ∧ a.tmps[e.s]? = some (.agg C) ∧ C.size = e.sz ∧ w.heap[b]? = some (.cells C e.ty (0, 0))
/-- What is asked of an early store beyond its text. -/
structure ESem (P : Program) (Rs : Nat → RSpec) (F : Fr) (HB : Hp) (e : Early) : Prop where
  ty : (P.info? e.ty).map (·.size) = some e.sz
  val : ∀ v w, (Rs e.k).R v w → ∃ C, v = .agg C ∧ C.size = e.sz ∧ C.all (·.oneCell') = true
  al : match e.al with
    | .inl k => Rs k = .cell e.ty e.sz
    | .inr h => ∃ b cs, F.lookup e.d = some (.pointer (some ⟨b, 0, none⟩)) ∧ HB[h]? = some (b, .cells cs e.ty (0, 0)) ∧ cs.size = e.sz

/-- The invariant of the region: what is listed is done, no store among it but early ones. -/
structure DInv (w0 w1 : World) (D : List Nat) (n : Nat) (HB H : Hp) (ts : List Nat) (es : List Early) (l : List Oper) (Rs : Nat → RSpec) (F : Fr) (listed : Array Bool) (a : Act) (w : World) : Prop where
  lsz : listed.size = l.length
  noStore : ∀ i, isTail ts es l i = true → listed.getD i false = false
  waits : ∀ k i, listed.getD k false = true → edgeB l k i = true → listed.getD i false = true
  base : St w0 D n [] H a w
  from1 : Keeps (HB.map Prod.fst) w1 w
  keepF : ∀ t v, F.lookup t = some v → (∀ i o, l[i]? = some o → listed.getD i false = true → o.dst ≠ some t) → a.tmps[t]? = some v
  res : ∀ i, listed.getD i false = true → isEarly es i = false → Done l Rs a w i
  apart : ∀ i j oi oj di dj vi vj b, i ≠ j → listed.getD i false = true → listed.getD j false = true → l[i]? = some oi → l[j]? = some oj → oi.dst = some di → oj.dst = some dj →
    a.tmps[di]? = some vi → a.tmps[dj]? = some vj → b ∈ (Rs i).blk vi → b ∉ (Rs j).blk vj
  old : ∀ i oi di vi b, listed.getD i false = true → l[i]? = some oi → oi.dst = some di → a.tmps[di]? = some vi → b ∈ (Rs i).blk vi → b < w.heap.size ∧ b ∉ HB.map Prod.fst ∧ b ∉ H.map Prod.fst ∧ w0.heap.size ≤ b ∧ w1.heap.size ≤ b
  hb : ∀ (h b : Nat) (ob : Obj), HB[h]? = some (b, ob) → b < w.heap.size
  tg : ∀ e h, e ∈ es → e.al = .inr h → ∃ b cs, F.lookup e.d = some (.pointer (some ⟨b, 0, none⟩)) ∧ (HB[h]?).map Prod.fst = some b ∧ a.tmps[e.d]? = some (.pointer (some ⟨b, 0, none⟩)) ∧ w.heap[b]? = some (.cells cs e.ty (0, 0)) ∧ cs.size = e.sz
  est : ∀ e, e ∈ es → listed.getD e.i false = true → Put e a w

/-- What drawOk says of one operation. -/
structure Fits (n : Nat) (ts : List Nat) (es : List Early) (l : List Oper) (i : Nat) (oi : Oper) : Prop where
  dst : isTail ts es l i = false → isEarly es i = false → ∃ d, oi.dst = some d ∧ d < n
  back : ∀ e ∈ oi.after, Region.binds .any e = true → e.on < i
  noS : isTail ts es l i = false → ∀ e ∈ oi.after, Region.binds .any e = true → isTail ts es l e.on = false
  ne : ∀ j oj, l[j]? = some oj → j ≠ i → oi.dst = none ∨ oi.dst ≠ oj.dst
  pure : isPure oi = true → isTail ts es l i = false → ∀ j oj, l[j]? = some oj → j ≠ i → edgeB l j i = true ∨ edgeB l i j = true ∨ oi.apart l.toArray oj = true
  store : isTail ts es l i = true → ∀ j oj, l[j]? = some oj → j ≠ i → (isPure oj = true ∧ isTail ts es l j = false) ∨ isTail ts es l j = true ∨ edge2 l i j = true
theorem drawOk_fits {l : List Oper} (h : drawOk n ts es l = true) : (∀ (j : Nat) (o : Oper) cs b, l.toArray[j]? = some o → o.op ≠ .select cs b) ∧ ∀ i oi, l[i]? = some oi → Fits n ts es l i oi := by
  unfold drawOk at h
  rw [Bool.and_eq_true] at h
  refine ⟨fun j o cs b ho he => ?_, fun i oi hi => ?_⟩
  · have ho' : l[j]? = some o := by simpa using ho
    have := List.all_eq_true.1 h.1 o (List.mem_of_getElem? ho')
    rw [he] at this; cases this
  have hlt : i < l.length := (List.getElem?_eq_some_iff.1 hi).1
  have h1 := List.all_eq_true.1 h.2 i (List.mem_range.2 hlt)
  simp only [hi, Bool.and_eq_true, List.all_eq_true] at h1
  obtain ⟨⟨⟨a1, a3⟩, a4⟩, a5⟩ := h1
  have aj : ∀ j oj, l[j]? = some oj → j ≠ i → (oi.dst = none ∨ oi.dst ≠ oj.dst) ∧ (isPure oi = true → isTail ts es l i = false → edgeB l j i = true ∨ edgeB l i j = true ∨ oi.apart l.toArray oj = true) ∧
      (isTail ts es l i = true → (isPure oj = true ∧ isTail ts es l j = false) ∨ isTail ts es l j = true ∨ edge2 l i j = true) := by
    intro j oj hj hne
    have h2 := a5 j (List.mem_range.2 (List.getElem?_eq_some_iff.1 hj).1)
    simp only [hj, Bool.or_eq_true, beq_iff_eq, hne, false_or, Bool.and_eq_true, Option.isNone_iff_eq_none, bne_iff_ne, ne_eq, Bool.not_eq_true', decide_eq_true_eq] at h2
    obtain ⟨⟨b1, b2⟩, b3⟩ := h2
    refine ⟨b1, fun hp ht => ?_, fun hs => ?_⟩
    · rw [hp, ht] at b2; simpa [or_assoc] using b2
    · rw [hs] at b3; simpa [or_assoc] using b3
  refine ⟨fun hs hx => ?_, fun e he hb => ?_, fun hs e he hb => ?_, fun j oj hj hne => (aj j oj hj hne).1, fun hp ht j oj hj hne => (aj j oj hj hne).2.1 hp ht, fun hs j oj hj hne => (aj j oj hj hne).2.2 hs⟩
  · rw [hs, hx] at a1
    simp only [Bool.false_or] at a1
    cases hd : oi.dst with
    | none => rw [hd] at a1; cases a1
    | some d => rw [hd] at a1; exact ⟨d, rfl, by simpa using a1⟩
  · have := a3 e (Array.mem_toList_iff.2 he)
    rw [hb] at this; simpa using this
  · rw [hs] at a4
    simp only [Bool.false_or] at a4
    have := List.all_eq_true.1 a4 e (Array.mem_toList_iff.2 he)
    rw [hb] at this
    simpa using this

theorem edge_listed {l : List Oper} {listed : Array Bool} {i j : Nat} {o : Oper} (ho : l[i]? = some o) (hall : ∀ e ∈ o.after, Region.binds .any e = true → listed.getD e.on false = true) (he : edgeB l i j = true) : listed.getD j false = true := by
  unfold edgeB at he
  rw [ho] at he
  obtain ⟨e, hm, hb⟩ := List.any_eq_true.1 he
  simp only [Bool.and_eq_true, beq_iff_eq] at hb
  have := hall e (Array.mem_toList_iff.1 hm) hb.1
  rw [hb.2] at this
  exact this
theorem edge_of {l : List Oper} {i : Nat} {o : Oper} {e : Edge} (ho : l[i]? = some o) (he : e ∈ o.after) (hb : Region.binds .any e = true) : edgeB l i e.on = true := by
  unfold edgeB
  rw [ho]
  exact List.any_eq_true.2 ⟨e, Array.mem_toList_iff.2 he, by simp [hb]⟩

theorem DInv.put {w1 : World} {l : List Oper} {Rs : Nat → RSpec} {listed : Array Bool} (hok : ∀ i oi, l[i]? = some oi → Fits n ts es l i oi) (hes : ∀ e, e ∈ es → EText ts es l e) (iv : DInv w0 w1 D n HB H ts es l Rs F listed a w) {i d : Nat} {o : Oper} {v : Value} {w' : World}
    (hi : l[i]? = some o) (hs : isTail ts es l i = false) (hu : listed.getD i false = false) (hd : o.dst = some d) (hn : d < n) (hk : Keeps [] w w') (hR : (Rs i).R v w') (hall : ∀ e ∈ o.after, Region.binds .any e = true → listed.getD e.on false = true)
    (hb : ∀ b, b ∈ (Rs i).blk v → w.heap.size ≤ b ∧ b < w'.heap.size) : DInv w0 w1 D n HB H ts es l Rs F (listed.setIfInBounds i true) (a.put o.dst v) w' := by
  have hlt : i < l.length := (List.getElem?_eq_some_iff.1 hi).1
  have hsz : d < a.tmps.size := by rw [iv.base.size]; exact hn
  have other : ∀ k ok dk, l[k]? = some ok → k ≠ i → ok.dst = some dk → (a.put o.dst v).tmps[dk]? = a.tmps[dk]? := by
    intro k ok dk hk' hne hdk
    rw [hd]
    show (a.tmps.setIfInBounds d v)[dk]? = _
    rw [Array.getElem?_setIfInBounds_ne]
    intro e
    subst e
    rcases (hok i o hi).ne k ok hk' hne with h | h
    · rw [hd] at h; cases h
    · rw [hd, hdk] at h; exact h rfl
  have self : (a.put o.dst v).tmps[d]? = some v := by
    rw [hd]
    show (a.tmps.setIfInBounds d v)[d]? = _
    simp [hsz]
  have lst : ∀ k, (listed.setIfInBounds i true).getD k false = true → k = i ∨ (k ≠ i ∧ listed.getD k false = true) := by
    intro k h
    by_cases e : k = i
    · exact .inl e
    · rw [getD_set_ne false (Ne.symm e)] at h; exact .inr ⟨e, h⟩
  have same : ∀ k dk, k ≠ i → dstOf l k = some dk → (a.put o.dst v).tmps[dk]? = a.tmps[dk]? := by
    intro k dk hne hdk
    unfold dstOf at hdk
    cases hlk : l[k]? with
    | none => rw [hlk] at hdk; cases hdk
    | some ok => rw [hlk] at hdk; exact other k ok dk hlk hne hdk
  have never : ∀ dk, (∀ (j : Nat) o, l[j]? = some o → o.dst ≠ some dk) → (a.put o.dst v).tmps[dk]? = a.tmps[dk]? := by
    intro dk hno
    rw [hd]
    show (a.tmps.setIfInBounds d v)[dk]? = _
    rw [Array.getElem?_setIfInBounds_ne]
    intro e
    subst e
    exact hno i o hi hd
  refine ⟨by simp [iv.lsz], fun k hst => ?_, fun k j hk' he => ?_, ?_, iv.from1.trans' hk, fun t u ht hno => ?_, fun k hk' hne' => ?_, ?_, ?_, fun h b ob hb' => Nat.lt_of_lt_of_le (iv.hb h b ob hb') hk.size, ?_, ?_⟩
  · have hne : k ≠ i := fun e => by subst e; rw [hs] at hst; cases hst
    rw [getD_set_ne false (Ne.symm hne)]; exact iv.noStore k hst
  · rcases lst k hk' with rfl | ⟨_, hl⟩
    · exact getD_set_true (edge_listed hi hall he)
    · exact getD_set_true (iv.waits k j hl he)
  · rw [hd]
    have s1 := (iv.base.put v hn).frame (F' := []) (fun _ _ h => by simp at h)
    exact ⟨s1.size, s1.dfr, s1.fr, fun x hx => hk.get (s1.hp x hx) (by simp), s1.own, s1.nd, s1.keeps.trans' hk⟩
  · have h1 : o.dst ≠ some t := hno i o hi (by simp [iv.lsz, hlt])
    rw [hd]
    show (a.tmps.setIfInBounds d v)[t]? = _
    rw [Array.getElem?_setIfInBounds_ne (fun e => by subst e; exact h1 hd)]
    refine iv.keepF t u ht fun k ok hk' hl => hno k ok hk' (getD_set_true hl)
  · rcases lst k hk' with rfl | ⟨hne, hl⟩
    · exact ⟨o, d, v, hi, hd, self, hR⟩
    · obtain ⟨ok, dk, vk, h1, h2, h3, h4⟩ := iv.res k hl hne'
      exact ⟨ok, dk, vk, h1, h2, by rw [other k ok dk h1 hne h2]; exact h3, (Rs k).mono _ _ _ [] h4 hk (by simp)⟩
  · intro p q op oq dp dq vp vq b hpq hp hq lp lq ep eq1 tp tq bp bq
    rcases lst p hp with rfl | ⟨hnp, hlp⟩
    · rcases lst q hq with rfl | ⟨hnq, hlq⟩
      · exact hpq rfl
      · rw [hi] at lp; cases lp
        rw [hd] at ep; cases ep
        rw [self] at tp; cases tp
        rw [other q oq dq lq hnq eq1] at tq
        have h1 := hb b bp
        have h2 := iv.old q oq dq vq b hlq lq eq1 tq bq
        omega
    · rw [other p op dp lp hnp ep] at tp
      rcases lst q hq with rfl | ⟨hnq, hlq⟩
      · rw [hi] at lq; cases lq
        rw [hd] at eq1; cases eq1
        rw [self] at tq; cases tq
        have h1 := hb b bq
        have h2 := iv.old p op dp vp b hlp lp ep tp bp
        omega
      · rw [other q oq dq lq hnq eq1] at tq
        exact iv.apart p q op oq dp dq vp vq b hpq hlp hlq lp lq ep eq1 tp tq bp bq
  · intro p op dp vp b hp lp ep tp bp
    rcases lst p hp with rfl | ⟨hnp, hlp⟩
    · rw [hi] at lp; cases lp
      rw [hd] at ep; cases ep
      rw [self] at tp; cases tp
      have h1 := hb b bp
      have h2 := iv.base.fresh h1.1
      have h3 := iv.base.keeps.size
      have h4 := iv.from1.size
      refine ⟨h1.2, fun hm => ?_, h2, by omega, by omega⟩
      obtain ⟨⟨b', ob⟩, hx, rfl⟩ := List.mem_map.1 hm
      obtain ⟨k, hk1⟩ := List.getElem?_of_mem hx
      have := iv.hb k _ _ hk1
      have := h1.1
      simp only at this
      omega
    · rw [other p op dp lp hnp ep] at tp
      have h1 := iv.old p op dp vp b hlp lp ep tp bp
      have h2 := hk.size
      exact ⟨by omega, h1.2⟩
  · intro e h he hal
    obtain ⟨b, cs, h1, h2, h3, h4, h5⟩ := iv.tg e h he hal
    have ht := (hes e he).al
    rw [hal] at ht
    exact ⟨b, cs, h1, h2, by rw [never e.d ht]; exact h3, hk.get h4 (by simp), h5⟩
  · intro e he hl
    have hx := hes e he
    rcases lst e.i hl with h1 | ⟨hne, h1⟩
    · obtain ⟨oe, e1, _, _, e2⟩ := hx.o
      rw [h1, hi] at e1; cases e1
      rw [hd] at e2; cases e2
    · obtain ⟨b, C, p1, p2, p3, p4⟩ := iv.est e he h1
      have hki : e.k ≠ i := fun hh => by
        have := iv.waits e.i e.k h1 hx.ek
        rw [hh, hu] at this; cases this
      refine ⟨b, C, ?_, by rw [same e.k e.s hki hx.sk]; exact p2, p3, hk.get p4 (by simp)⟩
      have ha := hx.al
      cases hal : e.al with
      | inl k =>
        rw [hal] at ha
        have hki : k ≠ i := fun hh => by
          have := iv.waits e.i k h1 ha.1
          rw [hh, hu] at this; cases this
        rw [same k e.d hki ha.2]; exact p1
      | inr k =>
        rw [hal] at ha
        rw [never e.d ha]; exact p1

theorem dstOf_some {l : List Oper} {k d : Nat} (h : dstOf l k = some d) : ∃ o, l[k]? = some o ∧ o.dst = some d := by
  unfold dstOf at h
  cases hlk : l[k]? with
  | none => rw [hlk] at h; cases h
  | some ok => rw [hlk] at h; exact ⟨ok, rfl, h⟩
/-- The variable that an early store writes, once it is there. -/
theorem DInv.target {w1 : World} {l : List Oper} {Rs : Nat → RSpec} {listed : Array Bool} (hes : ∀ e, e ∈ es → EText ts es l e) (hsem : ∀ e, e ∈ es → ESem P Rs F HB e) (iv : DInv w0 w1 D n HB H ts es l Rs F listed a w)
    (hne : ∀ k, listed.getD k false = true → ∀ d, dstOf l k = some d → isEarly es k = false) {e : Early} (he : e ∈ es) (hl : ∀ k, e.al = .inl k → listed.getD k false = true) :
    ∃ b cs, a.tmps[e.d]? = some (.pointer (some ⟨b, 0, none⟩)) ∧ w.heap[b]? = some (.cells cs e.ty (0, 0)) ∧ cs.size = e.sz ∧
      (∀ k, e.al = .inl k → ∃ o v, l[k]? = some o ∧ o.dst = some e.d ∧ a.tmps[e.d]? = some v ∧ b ∈ (Rs k).blk v) ∧ (∀ h, e.al = .inr h → (HB[h]?).map Prod.fst = some b) := by
  have hx := (hes e he).al
  have hs := (hsem e he).al
  cases hal : e.al with
  | inl k =>
    rw [hal] at hx hs
    simp only at hx hs
    have hlk := hl k hal
    obtain ⟨o, d, v, h1, h2, h3, h4⟩ := iv.res k hlk (hne k hlk e.d hx.2)
    obtain ⟨o', h5, h6⟩ := dstOf_some hx.2
    rw [h1] at h5; cases h5
    rw [h2] at h6; cases h6
    have h4' := h4
    rw [hs] at h4'
    obtain ⟨b, cs, rfl, h7, h8⟩ := h4'
    refine ⟨b, cs, h3, h7, h8, fun k' hk' => ?_, fun h hh => (by cases hh)⟩
    cases hk'
    exact ⟨o, _, h1, h2, h3, by rw [hs]; simp [RSpec.cell, ptrBlk]⟩
  | inr h =>
    obtain ⟨b, cs, h1, h2, h3, h4, h5⟩ := iv.tg e h he hal
    exact ⟨b, cs, h3, h4, h5, fun k hk => (by cases hk), fun h' hh => (by cases hh; exact h2)⟩
/-- An early store is done. -/
theorem DInv.early {w1 : World} {l : List Oper} {Rs : Nat → RSpec} {listed : Array Bool} (hes : ∀ e, e ∈ es → EText ts es l e) (hds : ∀ e e', e ∈ es → e' ∈ es → e = e' ∨ (e.i ≠ e'.i ∧ e.al ≠ e'.al)) (hsem : ∀ e, e ∈ es → ESem P Rs F HB e)
    (hnd : (HB.map Prod.fst).Nodup) (hdis : ∀ b, b ∈ HB.map Prod.fst → b ∉ H.map Prod.fst) (hown : ∀ b, b ∈ HB.map Prod.fst → b ∈ D ∨ w0.heap.size ≤ b)
    (iv : DInv w0 w1 D n HB H ts es l Rs F listed a w) {e : Early} (he : e ∈ es) (hu : listed.getD e.i false = false) (hall : ∀ k, edgeB l e.i k = true → listed.getD k false = true) :
    ∃ b C, a.tmps[e.d]? = some (.pointer (some ⟨b, 0, none⟩)) ∧ a.tmps[e.s]? = some (.agg C) ∧ (storeVar e.ty ⟨b, 0, none⟩ (.agg C)).run P w = .ok () (World.putObj w b (.cells C e.ty (0, 0))) ∧
      DInv w0 w1 D n HB H ts es l Rs F (listed.setIfInBounds e.i true) a (World.putObj w b (.cells C e.ty (0, 0))) := by
  have hx := hes e he
  have nte : ∀ k d, dstOf l k = some d → isEarly es k = false := fun k d hd => by
    cases hy : isEarly es k with
    | false => rfl
    | true =>
      obtain ⟨e', he', rfl⟩ := early_of hy
      obtain ⟨o, h1, _, _, h2⟩ := (hes e' he').o
      obtain ⟨o', h3, h4⟩ := dstOf_some hd
      rw [h1] at h3; cases h3
      rw [h2] at h4; cases h4
  have alk : ∀ k, e.al = .inl k → listed.getD k false = true := fun k hk => by
    have := hx.al
    rw [hk] at this
    exact hall k this.1
  obtain ⟨b, cs, t1, t2, t3, t4, t5⟩ := iv.target hes hsem (fun k _ d hd => nte k d hd) he alk
  obtain ⟨ok, dk, v, k1, k2, k3, k4⟩ := iv.res e.k (hall e.k hx.ek) (nte _ _ hx.sk)
  obtain ⟨ok', k5, k6⟩ := dstOf_some hx.sk
  rw [k1] at k5; cases k5
  rw [k2] at k6; cases k6
  obtain ⟨C, rfl, c2, c3⟩ := (hsem e he).val v w k4
  refine ⟨b, C, t1, k3, run_storeW t2 (by rw [c2]; exact (hsem e he).ty) (by rw [t3, c2]) c3, ?_⟩
  -- where the block stands
  have blt := lt_of_get t2
  have bown : (b ∈ HB.map Prod.fst ∨ (b ∉ HB.map Prod.fst ∧ b ∉ H.map Prod.fst ∧ w0.heap.size ≤ b ∧ w1.heap.size ≤ b)) := by
    cases hal : e.al with
    | inl k =>
      obtain ⟨o, v, h1, h2, h3, h4⟩ := t4 k hal
      exact .inr (iv.old k o _ v b (alk k hal) h1 h2 h3 h4).2
    | inr h =>
      have := t5 h hal
      cases hq : HB[h]? with
      | none => rw [hq] at this; cases this
      | some x => rw [hq] at this; simp at this; subst this; exact .inl (List.mem_map.2 ⟨x, List.mem_of_getElem? hq, rfl⟩)
  have hpk : Keeps [b] w (World.putObj w b (.cells C e.ty (0, 0))) := (Keeps.refl [b] w).putObj (.inl (by simp)) _
  have bH : b ∉ H.map Prod.fst := by rcases bown with h | h; exact hdis b h; exact h.2.1
  have lst : ∀ k, (listed.setIfInBounds e.i true).getD k false = true → k = e.i ∨ (k ≠ e.i ∧ listed.getD k false = true) := by
    intro k h
    by_cases e' : k = e.i
    · exact .inl e'
    · rw [getD_set_ne false (Ne.symm e')] at h; exact .inr ⟨e', h⟩
  -- the other early stores' variables
  have other : ∀ e', e' ∈ es → e' ≠ e → (∀ k, e'.al = .inl k → listed.getD k false = true) → ∀ b', a.tmps[e'.d]? = some (.pointer (some ⟨b', 0, none⟩)) → b' ≠ b := by
    intro e' he' hne hl' b' hb' hbb
    subst hbb
    obtain ⟨b2, cs2, u1, u2, u3, u4, u5⟩ := iv.target hes hsem (fun k _ d hd => nte k d hd) he' hl'
    rw [hb'] at u1; cases u1
    have hal := ((hds e' e he' he).resolve_left hne).2
    cases ha : e.al with
    | inl k =>
      obtain ⟨o, v, h1, h2, h3, h4⟩ := t4 k ha
      have ho := iv.old k o _ v _ (alk k ha) h1 h2 h3 h4
      cases ha' : e'.al with
      | inl k' =>
        obtain ⟨o', v', h1', h2', h3', h4'⟩ := u4 k' ha'
        rw [ha, ha'] at hal
        exact iv.apart k k' o o' _ _ v v' _ (fun hk => hal (by rw [hk])) (alk k ha) (hl' k' ha') h1 h1' h2 h2' h3 h3' h4 h4'
      | inr h' =>
        have := u5 h' ha'
        cases hq : HB[h']? with
        | none => rw [hq] at this; cases this
        | some x => rw [hq] at this; simp at this; subst this; exact ho.2.1 (List.mem_map.2 ⟨x, List.mem_of_getElem? hq, rfl⟩)
    | inr h =>
      have q1 := t5 h ha
      cases hq : HB[h]? with
      | none => rw [hq] at q1; cases q1
      | some x =>
        rw [hq] at q1; simp at q1; subst q1
        have hm : x.1 ∈ HB.map Prod.fst := List.mem_map.2 ⟨x, List.mem_of_getElem? hq, rfl⟩
        cases ha' : e'.al with
        | inl k' =>
          obtain ⟨o', v', h1', h2', h3', h4'⟩ := u4 k' ha'
          exact (iv.old k' o' _ v' _ (hl' k' ha') h1' h2' h3' h4').2.1 hm
        | inr h' =>
          have q2 := u5 h' ha'
          cases hq' : HB[h']? with
          | none => rw [hq'] at q2; cases q2
          | some y =>
            rw [hq'] at q2; simp at q2
            rw [ha, ha'] at hal
            have e1 : (HB.map Prod.fst)[h]? = some x.1 := by simp [hq]
            have e2 : (HB.map Prod.fst)[h']? = some x.1 := by simp [hq', q2]
            have l1 := (List.getElem?_eq_some_iff.1 e1).1
            exact hal (by rw [(List.getElem?_inj l1 hnd).1 (e1.trans e2.symm)])
  refine ⟨by simp [iv.lsz], fun k hst => ?_, fun k j hk' hedge => ?_, ?_, ?_, fun t u ht hno => ?_, fun k hk' hne' => ?_, ?_, ?_, fun h b' ob hb' => by rw [putObj_size]; exact iv.hb h b' ob hb', ?_, ?_⟩
  · have hne : k ≠ e.i := fun e' => by subst e'; rw [hx.nt] at hst; cases hst
    rw [getD_set_ne false (Ne.symm hne)]; exact iv.noStore k hst
  · rcases lst k hk' with rfl | ⟨_, hl⟩
    · exact getD_set_true (hall j hedge)
    · exact getD_set_true (iv.waits k j hl hedge)
  · refine ⟨iv.base.size, iv.base.dfr, fun _ _ h => by simp at h, fun x hx' => hpk.get (iv.base.hp x hx') (by simp; intro h; exact bH (List.mem_map.2 ⟨x, hx', h⟩)), iv.base.own, iv.base.nd, iv.base.keeps.putObj ?_ _⟩
    rcases bown with h | h
    · exact hown b h
    · exact .inr h.2.2.1
  · refine iv.from1.putObj ?_ _
    rcases bown with h | h
    · exact .inl h
    · exact .inr h.2.2.2
  · exact iv.keepF t u ht fun k ok hk' hl => hno k ok hk' (getD_set_true hl)
  · rcases lst k hk' with rfl | ⟨hne, hl⟩
    · rw [isEarly_of he] at hne'; cases hne'
    · obtain ⟨ok, dk, vk, h1, h2, h3, h4⟩ := iv.res k hl hne'
      refine ⟨ok, dk, vk, h1, h2, h3, ?_⟩
      by_cases hb : b ∈ (Rs k).blk vk
      · have hoo := iv.old k ok dk vk b hl h1 h2 h3 hb
        cases ha : e.al with
        | inr h =>
          have := t5 h ha
          cases hq : HB[h]? with
          | none => rw [hq] at this; cases this
          | some x => rw [hq] at this; simp at this; subst this; exact absurd (List.mem_map.2 ⟨x, List.mem_of_getElem? hq, rfl⟩) hoo.2.1
        | inl k' =>
          obtain ⟨o', v', h1', h2', h3', h4'⟩ := t4 k' ha
          by_cases hkk : k = k'
          · subst hkk
            have hs := (hsem e he).al
            rw [ha] at hs
            simp only at hs
            rw [hs] at h4 hb ⊢
            obtain ⟨b2, cs2, rfl, h7, h8⟩ := h4
            have hb2 : b = b2 := by simpa [RSpec.cell, ptrBlk] using hb
            subst hb2
            exact ⟨b, C, rfl, putObj_same blt, c2⟩
          · exact absurd h4' (iv.apart k k' ok o' _ _ vk v' b hkk hl (alk k' ha) h1 h1' h2 h2' h3 h3' hb)
      · exact (Rs k).mono _ _ _ [b] h4 hpk (fun x hx' hm => by simp at hm; subst hm; exact hb hx')
  · intro p q op oq dp dq vp vq b' hpq hp hq lp lq ep eq1 tp tq bp
    rcases lst p hp with rfl | ⟨hnp, hlp⟩
    · obtain ⟨o, h1, _, _, h2⟩ := hx.o
      rw [h1] at lp; cases lp
      rw [h2] at ep; cases ep
    · rcases lst q hq with rfl | ⟨hnq, hlq⟩
      · obtain ⟨o, h1, _, _, h2⟩ := hx.o
        rw [h1] at lq; cases lq
        rw [h2] at eq1; cases eq1
      · exact iv.apart p q op oq dp dq vp vq b' hpq hlp hlq lp lq ep eq1 tp tq bp
  · intro p op dp vp b' hp lp ep tp bp
    rcases lst p hp with rfl | ⟨hnp, hlp⟩
    · obtain ⟨o, h1, _, _, h2⟩ := hx.o
      rw [h1] at lp; cases lp
      rw [h2] at ep; cases ep
    · rw [putObj_size]; exact iv.old p op dp vp b' hlp lp ep tp bp
  · intro e' h he' hal
    obtain ⟨b', cs', h1, h2, h3, h4, h5⟩ := iv.tg e' h he' hal
    by_cases hee : e' = e
    · subst hee
      rw [t1] at h3; cases h3
      exact ⟨b, C, h1, h2, t1, putObj_same blt, c2⟩
    · have := other e' he' hee (fun k hk => by rw [hal] at hk; cases hk) b' h3
      exact ⟨b', cs', h1, h2, h3, by rw [putObj_other this]; exact h4, h5⟩
  · intro e' he' hl
    by_cases hee : e' = e
    · subst hee
      exact ⟨b, C, t1, k3, c2, putObj_same blt⟩
    · rcases lst e'.i hl with h1 | ⟨hne, h1⟩
      · exact absurd h1 ((hds e' e he' he).resolve_left hee).1
      · obtain ⟨b', C', p1, p2, p3, p4⟩ := iv.est e' he' h1
        have hl' : ∀ k, e'.al = .inl k → listed.getD k false = true := fun k hk => by
          have := (hes e' he').al
          rw [hk] at this
          exact iv.waits e'.i k h1 this.1
        exact ⟨b', C', p1, p2, p3, by rw [putObj_other (other e' he' hee hl' b' p1)]; exact p4⟩

/-- What may be done next of what is left. -/
def rdy (l : List Oper) (rem : List Nat) : List Nat := rem.filter fun k => rem.all fun j => j == k || !edgeB l k j
/-- What is left, in whatever order its edges let. -/
def Wt (P : Program) (Q : Exit → Act → World → Prop) (l : List Oper) : Nat → List Nat → Act → World → Prop
  | 0, _, a, w => Q .normal a w
  | f + 1, rem, a, w => (rem = [] → Q .normal a w) ∧ ∀ k, k ∈ rdy l rem → wpOp P l.toArray Q k (Wt P Q l f (rem.erase k)) a w
theorem wpOp_mono' {ops : Array Oper} {k : Nat} {K K' : Act → World → Prop} (h : ∀ a w, K a w → K' a w) (hh : wpOp P ops Q k K a w) : wpOp P ops Q k K' a w := by
  unfold wpOp at *
  split
  · rename_i e; rw [e] at hh; exact h _ _ hh
  · rename_i o e
    rw [e] at hh
    simp only [] at hh
    split at hh
    · rename_i hw; rw [if_pos hw]; exact hh.imp (Oper.wp_mono h) id
    · rename_i hw; rw [if_neg hw]; exact h _ _ hh
/-- Q, but for the normal end. -/
def QK (K : Act → World → Prop) (Q : Exit → Act → World → Prop) : Exit → Act → World → Prop
  | .normal, a, w => K a w
  | e, a, w => Q e a w
theorem wpOp_of_list {ops : Array Oper} {k : Nat} {o : Oper} {K : Act → World → Prop} (ho : ops[k]? = some o) (h : wpList P ops (QK K Q) [o] a w) : wpOp P ops Q k K a w := by
  unfold wpOp
  simp only [ho]
  unfold wpList at h
  split at h
  · rename_i hw
    rw [if_pos hw]
    rcases h with h | h
    · refine .inl ?_
      unfold Oper.wp at *
      generalize (execOp a.eval o).run P w = r at *
      cases r with
      | ok m w' => cases m <;> exact h
      | halt x w' => cases x <;> exact h
    · exact .inr h
  · rename_i hw
    rw [if_neg hw]
    exact h
/-- The next one, where but one may be next. -/
theorem Wt.one {l : List Oper} {f k : Nat} {rem r : List Nat} {o : Oper} (hr : rdy l rem = [k]) (ho : l[k]? = some o) (he : rem.erase k = r) (h : wpList P l.toArray (QK (Wt P Q l f r) Q) [o] a w) : Wt P Q l (f + 1) rem a w := by
  subst he
  refine ⟨fun e => (by rw [e] at hr; cases hr), fun j hj => ?_⟩
  rw [hr, List.mem_singleton] at hj
  subst hj
  exact wpOp_of_list (by simpa using ho) h
theorem Wt.two {l : List Oper} {f k j : Nat} {rem r s : List Nat} {o p : Oper} (hr : rdy l rem = [k, j]) (ho : l[k]? = some o) (hp : l[j]? = some p) (he : rem.erase k = r) (hf : rem.erase j = s)
    (h : wpList P l.toArray (QK (Wt P Q l f r) Q) [o] a w) (h2 : wpList P l.toArray (QK (Wt P Q l f s) Q) [p] a w) : Wt P Q l (f + 1) rem a w := by
  subst he; subst hf
  refine ⟨fun e => (by rw [e] at hr; cases hr), fun i hi => ?_⟩
  rw [hr] at hi
  rcases List.mem_cons.1 hi with rfl | hi
  · exact wpOp_of_list (by simpa using ho) h
  · rw [List.mem_singleton] at hi
    subst hi
    exact wpOp_of_list (by simpa using hp) h2
theorem Wt.nil {l : List Oper} (h : Q .normal a w) : Wt P Q l 0 [] a w := h
theorem QK.normal {K : Act → World → Prop} (h : K a w) : QK K Q .normal a w := h
/-- Each waits for all ahead of it. -/
def chainB (l : List Oper) : List Nat → Bool
  | [] => true
  | i :: r => (r.all fun j => edgeB l j i) && chainB l r
theorem Wt.chain {l : List Oper} : ∀ (rem : List Nat) (a : Act) (w : World), rem.Nodup → (∀ i, i ∈ rem → ∃ o, l[i]? = some o) → chainB l rem = true → wpList P l.toArray Q (rem.filterMap (l[·]?)) a w → Wt P Q l rem.length rem a w
  | [], a, w, _, _, _, h => h
  | i :: r, a, w, hp, hs, hc, h => by
    simp only [chainB, Bool.and_eq_true, List.all_eq_true] at hc
    obtain ⟨o, ho⟩ := hs i List.mem_cons_self
    rw [List.filterMap_cons_some (f := (l[·]?)) ho] at h
    refine ⟨fun e => (by cases e), fun k hk => ?_⟩
    obtain ⟨h1, h2⟩ := List.mem_filter.1 hk
    have hki : k = i := by
      rcases List.mem_cons.1 h1 with h3 | h3
      · exact h3
      · have h4 := List.all_eq_true.1 h2 i List.mem_cons_self
        rw [hc.1 k h3] at h4
        simp only [Bool.not_true, Bool.or_false, beq_iff_eq] at h4
        exact h4.symm
    subst hki
    rw [List.erase_cons_head]
    have ih : ∀ a w, wpList P l.toArray Q (r.filterMap (l[·]?)) a w → Wt P Q l r.length r a w := fun a w hh => Wt.chain r a w (List.nodup_cons.1 hp).2 (fun j hj => hs j (List.mem_cons_of_mem _ hj)) hc.2 hh
    unfold wpOp
    have hoA : l.toArray[k]? = some o := by simpa using ho
    simp only [hoA]
    unfold wpList at h
    split at h
    · rename_i hw
      rw [if_pos hw]
      exact h.imp (Oper.wp_mono ih) id
    · rename_i hw
      rw [if_neg hw]
      exact ih _ _ h
/-- The stores, when all else is done. -/
theorem stores_main {l : List Oper} (hok : ∀ i oi, l[i]? = some oi → Fits n ts es l i oi) : ∀ (m : Nat) (rem : List Nat) (fuel : Nat) (listed : Array Bool) (a : Act) (w : World), rem.length = m →
    listed.size = l.length → fuel + cnt l.length listed = l.length → rem.Pairwise (· < ·) → (∀ i, i ∈ rem ↔ i < l.length ∧ listed.getD i false = false) →
    Wt P Q l m rem a w → wpAny P .any l.toArray Q fuel listed a w
  | _, [], fuel, listed, a, w, hl, hsz, hf, _, hm, h => by
    have hr : Region.ready .any l.toArray listed = [] := by
      cases hr : Region.ready .any l.toArray listed with
      | nil => rfl
      | cons i is =>
        have hi : i ∈ Region.ready .any l.toArray listed := by rw [hr]; exact List.mem_cons_self
        obtain ⟨hu, o, ho, _⟩ := mem_ready.1 hi
        have hlt : i < l.length := by simpa using (Array.getElem?_eq_some_iff.1 ho).1
        have := (hm i).2 ⟨hlt, getD_both hu⟩
        simp at this
    subst hl
    exact wpAny_done hr h fuel
  | 0, i :: r, fuel, listed, a, w, hl, _, _, _, _, _ => by simp at hl
  | m + 1, i :: r, fuel, listed, a, w, hl, hsz, hf, hp, hm, h => by
    obtain ⟨hlt, hu⟩ := (hm i).1 List.mem_cons_self
    have hp' := List.pairwise_cons.1 hp
    have hcnt := cnt_set hsz hlt hu
    have hle := cnt_le l.length (listed.setIfInBounds i true)
    obtain ⟨fuel, rfl⟩ : ∃ m, fuel = m + 1 := ⟨fuel - 1, by omega⟩
    have hready : i ∈ Region.ready .any l.toArray listed := by
      have ho := List.getElem?_eq_getElem hlt
      refine mem_ready.2 ⟨getD_in (by omega) hu, l[i], (by simp), fun e he hb => ?_⟩
      have hlt2 := (hok i l[i] ho).back e he hb
      cases hx : listed.getD e.on false with
      | true => rfl
      | false =>
        have hmem := (hm e.on).2 ⟨by omega, hx⟩
        rcases List.mem_cons.1 hmem with h1 | h1
        · omega
        · have := hp'.1 _ h1; omega
    refine ⟨fun h0 => (by rw [h0] at hready; cases hready), fun k hk => ?_⟩
    obtain ⟨hku, ok, hko, hall⟩ := mem_ready.1 hk
    have hklt : k < l.length := by simpa using (Array.getElem?_eq_some_iff.1 hko).1
    have hko' : l[k]? = some ok := by simpa using hko
    have hkm := (hm k).2 ⟨hklt, getD_both hku⟩
    have hkr : k ∈ rdy l (i :: r) := by
      refine List.mem_filter.2 ⟨hkm, List.all_eq_true.2 fun j hj => ?_⟩
      by_cases e : j = k
      · subst e; simp
      · cases hx : edgeB l k j with
        | false => simp
        | true =>
          have h1 := edge_listed hko' hall hx
          have h2 := ((hm j).1 hj).2
          rw [h1] at h2; cases h2
    have hcntk := cnt_set hsz hklt (getD_both hku)
    have hnd : (i :: r).Nodup := hp.imp fun h => Nat.ne_of_lt h
    refine wpOp_mono' (fun a w hh => stores_main hok m ((i :: r).erase k) fuel _ a w (by rw [List.length_erase_of_mem hkm, hl]; omega) (by simp [hsz]) (by omega) (hp.sublist List.erase_sublist) (fun j => ?_) hh) (h.2 k hkr)
    rw [hnd.mem_erase_iff]
    by_cases e : k = j
    · subst e
      constructor
      · intro hj; exact absurd rfl hj.1
      · intro ⟨_, hj⟩; simp [hsz, hklt] at hj
    · rw [getD_set_ne false e]
      constructor
      · intro hj; exact (hm j).1 hj.2
      · intro hj; exact ⟨fun h => e h.symm, (hm j).2 hj⟩

def storeIdx (ts : List Nat) (es : List Early) (l : List Oper) : List Nat := (List.range l.length).filter fun i => isTail ts es l i

theorem draw_main {w1 : World} {l : List Oper} {Rs : Nat → RSpec} (hsel : ∀ (j : Nat) (o : Oper) cs b, l.toArray[j]? = some o → o.op ≠ .select cs b) (hok : ∀ i oi, l[i]? = some oi → Fits n ts es l i oi) (hes : ∀ e, e ∈ es → EText ts es l e) (hds : ∀ e e', e ∈ es → e' ∈ es → e = e' ∨ (e.i ≠ e'.i ∧ e.al ≠ e'.al)) (hsem : ∀ e, e ∈ es → ESem P Rs F HB e)
    (hnd : (HB.map Prod.fst).Nodup) (hdis : ∀ b, b ∈ HB.map Prod.fst → b ∉ H.map Prod.fst) (hown : ∀ b, b ∈ HB.map Prod.fst → b ∈ D ∨ w0.heap.size ≤ b)
    {S : Nat → Prop} (hobs : ∀ i o, l[i]? = some o → S i ∨ Ob P w0 w1 D (HB.map Prod.fst) n H ts es l Rs F i o)
    (hQ : ∀ c a w, ¬ Q (.panic c) a w)
    (fin : ∀ a w, St w0 D n (endFr ts es l F) H a w → Keeps (HB.map Prod.fst) w1 w → (∀ i o, l[i]? = some o → isTail ts es l i = false → isEarly es i = false → Done l Rs a w i) →
      (∀ i j, i ≠ j → ∀ oi oj di dj vi vj b, l[i]? = some oi → l[j]? = some oj → isTail ts es l i = false → isTail ts es l j = false → oi.dst = some di → oj.dst = some dj → a.tmps[di]? = some vi → a.tmps[dj]? = some vj → b ∈ (Rs i).blk vi → b ∉ (Rs j).blk vj) →
      (∀ i oi di vi b, l[i]? = some oi → isTail ts es l i = false → oi.dst = some di → a.tmps[di]? = some vi → b ∈ (Rs i).blk vi → b ∉ HB.map Prod.fst ∧ b ∉ H.map Prod.fst ∧ w0.heap.size ≤ b) →
      (∀ e, e ∈ es → Put e a w) →
      Wt P Q l (storeIdx ts es l).length (storeIdx ts es l) a w) :
    ∀ (fuel : Nat) (listed : Array Bool) (a : Act) (w : World), fuel + cnt l.length listed = l.length → (∀ i, S i → listed.getD i false = true) → DInv w0 w1 D n HB H ts es l Rs F listed a w → wpAny P .any l.toArray Q fuel listed a w := by
  intro fuel
  induction fuel with
  | zero =>
    intro listed a w hf hS iv
    have hfull := cnt_full (m := l.length) (listed := listed) (by omega)
    refine stores_main hok 0 [] 0 listed a w rfl iv.lsz hf List.Pairwise.nil (fun i => ?_) ?_
    · constructor
      · intro h; simp at h
      · intro ⟨h1, h2⟩; rw [hfull i h1] at h2; cases h2
    · have hns : storeIdx ts es l = [] := by
        unfold storeIdx
        rw [List.filter_eq_nil_iff]
        intro i hi
        have hlt := List.mem_range.1 hi
        intro hs
        have := iv.noStore i hs
        rw [hfull i hlt] at this; cases this
      have := fin a w (iv.base.cast rfl rfl |> fun s => ⟨s.size, s.dfr, fun t v ht => by
          obtain ⟨h1, h2⟩ := lookup_filter _ (fun _ _ _ => rfl) F t v ht
          refine iv.keepF t v h1 fun i o hi hl hd => ?_
          have h3 := List.all_eq_true.1 h2 i (List.mem_range.2 (List.getElem?_eq_some_iff.1 hi).1)
          simp only [hi, hd, bne_self_eq_false, Bool.false_or] at h3
          rw [iv.noStore i h3] at hl; exact absurd hl Bool.false_ne_true, s.hp, s.own, s.nd, s.keeps⟩) iv.from1
        (fun i o hi _ hne => iv.res i (hfull i (List.getElem?_eq_some_iff.1 hi).1) hne)
        (fun i j hne oi oj di dj vi vj b h1 h2 _ _ h3 h4 h5 h6 h7 => iv.apart i j oi oj di dj vi vj b hne (hfull i (List.getElem?_eq_some_iff.1 h1).1) (hfull j (List.getElem?_eq_some_iff.1 h2).1) h1 h2 h3 h4 h5 h6 h7)
        (fun i oi di vi b h1 _ h3 h4 h5 => have q := iv.old i oi di vi b (hfull i (List.getElem?_eq_some_iff.1 h1).1) h1 h3 h4 h5; ⟨q.2.1, q.2.2.1, q.2.2.2.1⟩)
        (fun e he => by obtain ⟨o, ho, _⟩ := (hes e he).o; exact iv.est e he (hfull e.i (List.getElem?_eq_some_iff.1 ho).1))
      rw [hns] at this
      exact this
  | succ fuel ih =>
    intro listed a w hf hS iv
    by_cases hA : ∀ i o, l[i]? = some o → isTail ts es l i = false → listed.getD i false = true
    · -- all but the stores
      have := fin a w (iv.base.cast rfl rfl |> fun s => ⟨s.size, s.dfr, fun t v ht => by
          obtain ⟨h1, h2⟩ := lookup_filter _ (fun _ _ _ => rfl) F t v ht
          refine iv.keepF t v h1 fun i o hi hl hd => ?_
          have h3 := List.all_eq_true.1 h2 i (List.mem_range.2 (List.getElem?_eq_some_iff.1 hi).1)
          simp only [hi, hd, bne_self_eq_false, Bool.false_or] at h3
          rw [iv.noStore i h3] at hl; exact absurd hl Bool.false_ne_true, s.hp, s.own, s.nd, s.keeps⟩) iv.from1
        (fun i o hi hs hne => iv.res i (hA i o hi hs) hne)
        (fun i j hne oi oj di dj vi vj b h1 h2 s1 s2 h3 h4 h5 h6 h7 => iv.apart i j oi oj di dj vi vj b hne (hA i oi h1 s1) (hA j oj h2 s2) h1 h2 h3 h4 h5 h6 h7)
        (fun i oi di vi b h1 s1 h3 h4 h5 => have q := iv.old i oi di vi b (hA i oi h1 s1) h1 h3 h4 h5; ⟨q.2.1, q.2.2.1, q.2.2.2.1⟩)
        (fun e he => by obtain ⟨o, ho, _⟩ := (hes e he).o; exact iv.est e he (hA e.i o ho (hes e he).nt))
      refine stores_main hok _ (storeIdx ts es l) (fuel + 1) listed a w rfl iv.lsz hf ?_ (fun i => ?_) this
      · exact List.Pairwise.sublist List.filter_sublist List.pairwise_lt_range
      · constructor
        · intro h
          obtain ⟨h1, h2⟩ := List.mem_filter.1 h
          exact ⟨List.mem_range.1 h1, iv.noStore i h2⟩
        · intro ⟨hlt, hu⟩
          refine List.mem_filter.2 ⟨List.mem_range.2 hlt, ?_⟩
          cases hs : isTail ts es l i with
          | true => rfl
          | false => rw [hA i _ (List.getElem?_eq_getElem hlt) hs] at hu; cases hu
    · -- the first that is not listed, and no store, is ready
      have hex : ∃ j, (∃ o, l[j]? = some o ∧ isTail ts es l j = false ∧ listed.getD j false = false) ∧ ∀ k, k < j → ∀ o, l[k]? = some o → isTail ts es l k = false → listed.getD k false = true := by
        have hne : ∃ j, ∃ o, l[j]? = some o ∧ isTail ts es l j = false ∧ listed.getD j false = false := by
          refine Classical.byContradiction fun hno => hA fun i o hi hs => ?_
          cases hx : listed.getD i false with
          | true => rfl
          | false => exact absurd ⟨i, o, hi, hs, hx⟩ hno
        obtain ⟨j, hj⟩ := hne
        induction j using Nat.strongRecOn with
        | _ j ihj =>
          by_cases hall : ∀ k, k < j → ∀ o, l[k]? = some o → isTail ts es l k = false → listed.getD k false = true
          · exact ⟨j, hj, hall⟩
          · have : ∃ k, k < j ∧ ∃ o, l[k]? = some o ∧ isTail ts es l k = false ∧ listed.getD k false = false := by
              refine Classical.byContradiction fun hno => hall fun k hk o ho hs => ?_
              cases hx : listed.getD k false with
              | true => rfl
              | false => exact absurd ⟨k, hk, o, ho, hs, hx⟩ hno
            obtain ⟨k, hk, hk2⟩ := this
            exact ihj k hk hk2
      obtain ⟨j, ⟨oj, hj, hjs, hju⟩, hmin⟩ := hex
      have hjlt : j < l.length := (List.getElem?_eq_some_iff.1 hj).1
      have hjready : j ∈ Region.ready .any l.toArray listed := by
        refine mem_ready.2 ⟨getD_in (by rw [iv.lsz]; exact hjlt) hju, oj, by simpa using hj, fun e he hb => ?_⟩
        have hbk := (hok j oj hj).back e he hb
        exact hmin e.on hbk _ (List.getElem?_eq_getElem (show e.on < l.length by omega)) ((hok j oj hj).noS hjs e he hb)
      -- one ready operation, its frame facts
      have facts : ∀ i o, i ∈ Region.ready .any l.toArray listed → l[i]? = some o → St w0 D n (baseFr l i F) H a w ∧ ∀ k, edgeB l i k = true → isEarly es k = false → Done l Rs a w k := by
        intro i o hi ho
        obtain ⟨hu, o', ho', hall⟩ := mem_ready.1 hi
        have : o' = o := by
          have h1 : l[i]? = some o' := by simpa using ho'
          rw [ho] at h1; cases h1; rfl
        subst this
        refine ⟨⟨iv.base.size, iv.base.dfr, fun t v ht => ?_, iv.base.hp, iv.base.own, iv.base.nd, iv.base.keeps⟩, fun k hk hne => iv.res k (edge_listed ho hall hk) hne⟩
        obtain ⟨h1, h2⟩ := lookup_filter _ (fun _ _ _ => rfl) F t v ht
        refine iv.keepF t v h1 fun k ok hk hl hd => ?_
        have h3 := List.all_eq_true.1 h2 k (List.mem_range.2 (List.getElem?_eq_some_iff.1 hk).1)
        simp only [hk, Bool.or_eq_true, beq_iff_eq, bne_iff_ne, ne_eq] at h3
        rcases h3 with h3 | h3 | h3
        · subst h3; rw [getD_both hu] at hl; cases hl
        · exact h3 hd
        · -- k waits for i, so it can't be listed: what it waits for would be listed
          have h4 := iv.waits k i hl h3
          rw [getD_both hu] at h4; cases h4
      have enp : ∀ i o, l[i]? = some o → isPure o = true → isEarly es i = false := fun i o ho hpo => by
        cases hx : isEarly es i with
        | false => rfl
        | true =>
          obtain ⟨e, he, rfl⟩ := early_of hx
          obtain ⟨oe, h1, h2, _⟩ := (hes e he).o
          rw [ho] at h1; cases h1
          unfold isPure at hpo
          rw [h2] at hpo; cases hpo
      by_cases hp : ∃ i o, i ∈ Region.ready .any l.toArray listed ∧ l[i]? = some o ∧ isPure o = true ∧ isTail ts es l i = false ∧ isEarly es i = false
      · obtain ⟨i, o, hi, ho, hpo, hs, hearly⟩ := hp
        obtain ⟨hu, o', ho', hall⟩ := mem_ready.1 hi
        have : o' = o := by
          have h1 : l[i]? = some o' := by simpa using ho'
          rw [ho] at h1; cases h1; rfl
        subst this
        have hlt : i < l.length := (List.getElem?_eq_some_iff.1 ho).1
        obtain ⟨hst, hdn⟩ := facts i o' hi ho
        obtain ⟨d, hd, hn⟩ := (hok i o' ho).dst hs hearly
        have hob := (hobs i o' ho).resolve_left fun h => (by have := hS i h; rw [getD_both hu] at this; cases this)
        rcases hob with hob | hob | hob
        · rw [hs] at hob; cases hob
        · rw [hearly] at hob; cases hob
        · have h1 := hob a w hst iv.from1 hdn
          rw [if_pos hpo] at h1
          obtain ⟨v, hy, hR, hb⟩ := h1
          refine wpAny_first (oi := o') (v := v) ho' hsel (fun c a w h => (hQ _ _ _ h).elim) fuel listed a w (fun k ok hk hne hun hno => ?_) hi hy ?_
          · have hk' : l[k]? = some ok := by simpa using hk
            rcases (hok i o' ho).pure hpo hs k ok hk' hne with h2 | h2 | h2
            · unfold edgeB at h2
              rw [hk'] at h2
              obtain ⟨e, hm, hbb⟩ := List.any_eq_true.1 h2
              simp only [Bool.and_eq_true, beq_iff_eq] at hbb
              exact absurd hbb.2 (hno e (Array.mem_toList_iff.1 hm) hbb.1)
            · have := edge_listed ho hall h2
              rw [getD_both hun] at this; cases this
            · exact h2
          · have hc := cnt_set iv.lsz hlt (getD_both hu)
            exact ih _ _ _ (by omega) (fun k hk => getD_set_true (hS k hk)) (iv.put hok hes ho hs (getD_both hu) hd hn (Keeps.refl _ _) hR hall (fun b hbb => by rw [hb] at hbb; cases hbb))
      · refine ⟨fun h0 => (by rw [h0] at hjready; cases hjready), fun i hi => ?_⟩
        obtain ⟨hu, o, hoA, hall⟩ := mem_ready.1 hi
        have ho : l[i]? = some o := by simpa using hoA
        have hlt : i < l.length := (List.getElem?_eq_some_iff.1 ho).1
        have hs : isTail ts es l i = false := by
          cases hx : isTail ts es l i with
          | false => rfl
          | true =>
            have hji : j ≠ i := fun e => by subst e; rw [hjs] at hx; cases hx
            rcases (hok i o ho).store hx j oj hj hji with h2 | h2 | h2
            · exact absurd ⟨j, oj, hjready, hj, h2.1, hjs, enp j oj hj h2.1⟩ hp
            · rw [hjs] at h2; cases h2
            · have key : ∀ (f k : Nat), edgeN l f k j = true → listed.getD k false = true → listed.getD j false = true := by
                intro f
                induction f with
                | zero => intro k hk hl; exact iv.waits k j hl hk
                | succ f ihf =>
                  intro k hk hl
                  unfold edgeN at hk
                  rw [Bool.or_eq_true] at hk
                  rcases hk with hk | hk
                  · exact iv.waits k j hl hk
                  · obtain ⟨m, _, hm⟩ := List.any_eq_true.1 hk
                    rw [Bool.and_eq_true] at hm
                    exact ihf m hm.2 (iv.waits k m hl hm.1)
              have h3 : listed.getD j false = true := by
                unfold edge2 edgeN at h2
                rw [Bool.or_eq_true] at h2
                rcases h2 with h2 | h2
                · exact edge_listed ho hall h2
                · obtain ⟨k, _, hk2⟩ := List.any_eq_true.1 h2
                  rw [Bool.and_eq_true] at hk2
                  exact key 7 k hk2.2 (edge_listed ho hall hk2.1)
              rw [hju] at h3; cases h3
        obtain ⟨hst, hdn⟩ := facts i o hi ho
        have hc := cnt_set iv.lsz hlt (getD_both hu)
        cases hearly : isEarly es i with
        | true =>
          obtain ⟨e, he, rfl⟩ := early_of hearly
          obtain ⟨oe, e1, e2, e3, e4⟩ := (hes e he).o
          rw [ho] at e1; cases e1
          obtain ⟨b, C, r1, r2, r3, r4⟩ := iv.early hes hds hsem hnd hdis hown he (getD_both hu) (fun k hk => edge_listed ho hall hk)
          unfold wpOp
          simp only [hoA]
          rw [if_pos (by simp [Region.wanted, e3])]
          refine .inl ?_
          have ev1 : a.eval (.tmp e.d) = .pointer (some ⟨b, 0, none⟩) := by
            show a.tmps.getD e.d undef = _
            rw [Array.getD_eq_getD_getElem?, r1]; rfl
          have ev2 : a.eval (.tmp e.s) = .agg C := by
            show a.tmps.getD e.s undef = _
            rw [Array.getD_eq_getD_getElem?, r2]; rfl
          have hrun : (execOp a.eval o).run P w = .ok .skip (World.putObj w b (.cells C e.ty (0, 0))) := by
            unfold execOp
            simp only [e2, ev1, ev2, Instr.storeAt, Instr.sureAddr, Sem.run_bind, Sem.run_pure, Result.andThen_ok, r3]
          unfold Oper.wp
          rw [hrun]
          show wpAny _ _ _ _ _ _ (a.put o.dst undef) _
          rw [e4]
          exact ih _ _ _ (by omega) (fun k hk => getD_set_true (hS k hk)) r4
        | false =>
        have hnp : isPure o = false := by
          cases hx : isPure o with
          | false => rfl
          | true => exact absurd ⟨i, o, hi, ho, hx, hs, hearly⟩ hp
        obtain ⟨d, hd, hn⟩ := (hok i o ho).dst hs hearly
        have hob := (hobs i o ho).resolve_left fun h => (by have := hS i h; rw [getD_both hu] at this; cases this)
        rcases hob with hob | hob | hob
        · rw [hs] at hob; cases hob
        · rw [hearly] at hob; cases hob
        · have h1 := hob a w hst iv.from1 hdn
          rw [hnp] at h1
          simp only [Bool.false_eq_true, if_false] at h1
          unfold wpOp
          simp only [hoA]
          split at h1
          · rename_i hw
            rw [if_pos hw]
            refine .inl (Oper.wp_quiet h1 fun a' w' ⟨v, e, hk, hR, hb⟩ => ?_)
            subst e
            exact ih _ _ _ (by omega) (fun k hk => getD_set_true (hS k hk)) (iv.put hok hes ho hs (getD_both hu) hd hn hk hR hall hb)
          · rename_i hw
            rw [if_neg hw]
            exact ih _ _ _ (by omega) (fun k hk => getD_set_true (hS k hk)) (iv.put hok hes ho hs (getD_both hu) hd hn (Keeps.refl _ _) h1.1 hall (fun b hbb => by rw [h1.2] at hbb; cases hbb))


/-! ### The rule, as it is used -/
inductive RS where
  | det (v : Value)
  | spec (s : RSpec)
def RS.to : RS → RSpec
  | .det v => .det v
  | .spec s => s
def lookRs (rs : List RS) (i : Nat) : RSpec := match rs[i]? with
  | some s => s.to
  | none => .any
/-- The values told outright, of the operations that pass p. -/
def detFr (p : Nat → Bool) : Nat → List Oper → List RS → Fr
  | i, o :: l, .det v :: rs => match o.dst with
    | some d => match p i with
      | true => (d, v) :: detFr p (i + 1) l rs
      | false => detFr p (i + 1) l rs
    | none => detFr p (i + 1) l rs
  | i, _ :: l, _ :: rs => detFr p (i + 1) l rs
  | _, _, _ => []
theorem detFr_spec (p : Nat → Bool) : ∀ (l : List Oper) (rs : List RS) (k : Nat) (t : Nat) (v : Value), (detFr p k l rs).lookup t = some v →
    ∃ i o, l[i]? = some o ∧ rs[i]? = some (.det v) ∧ o.dst = some t ∧ p (k + i) = true
  | [], _, _, t, v, h => by simp [detFr] at h
  | _ :: _, [], _, t, v, h => by simp [detFr] at h
  | o :: l, .spec s :: rs, k, t, v, h => by
    simp only [detFr] at h
    obtain ⟨i, o', h1, h2, h3, h4⟩ := detFr_spec p l rs (k + 1) t v h
    exact ⟨i + 1, o', by simpa using h1, by simpa using h2, h3, by rw [show k + (i + 1) = k + 1 + i by omega]; exact h4⟩
  | o :: l, .det u :: rs, k, t, v, h => by
    simp only [detFr] at h
    have next : (detFr p (k + 1) l rs).lookup t = some v → ∃ i o', (o :: l)[i]? = some o' ∧ (RS.det u :: rs)[i]? = some (.det v) ∧ o'.dst = some t ∧ p (k + i) = true := fun h => by
      obtain ⟨i, o', h1, h2, h3, h4⟩ := detFr_spec p l rs (k + 1) t v h
      exact ⟨i + 1, o', by simpa using h1, by simpa using h2, h3, by rw [show k + (i + 1) = k + 1 + i by omega]; exact h4⟩
    split at h
    · rename_i d hd
      split at h
      · rename_i hp
        rw [lookup_cons] at h
        by_cases e : t = d
        · subst e
          rw [if_pos rfl] at h
          cases h
          exact ⟨0, o, rfl, rfl, hd, hp⟩
        · rw [if_neg e] at h; exact next h
      · exact next h
    · exact next h
def depFr (l : List Oper) (rs : List RS) (i : Nat) : Fr := detFr (fun j => edgeB l i j) 0 l rs
def allFr (ts : List Nat) (es : List Early) (l : List Oper) (rs : List RS) : Fr := detFr (fun j => !isTail ts es l j) 0 l rs
theorem lookup_append (F G : Fr) (t : Nat) (v : Value) (h : (F ++ G).lookup t = some v) : F.lookup t = some v ∨ G.lookup t = some v := by
  induction F with
  | nil => exact .inr h
  | cons p F ih =>
    obtain ⟨d, u⟩ := p
    rw [List.cons_append, lookup_cons] at h
    rw [lookup_cons]
    by_cases e : t = d
    · rw [if_pos e] at h ⊢; exact .inl h
    · rw [if_neg e] at h ⊢; exact ih h
theorem St.append {F G : Fr} (st : St w0 D n F H a w) (hG : ∀ t v, G.lookup t = some v → a.tmps[t]? = some v) : St w0 D n (G ++ F) H a w :=
  { st with fr := fun t v h => (lookup_append G F t v h).elim (hG t v) (st.fr t v) }
theorem St.know (st : St w0 D n F H a w) {d : Nat} {v : Value} (h : a.tmps[d]? = some v) : St w0 D n ((d, v) :: F) H a w :=
  st.append (G := [(d, v)]) fun t u ht => by
    rw [lookup_cons] at ht
    by_cases e : t = d
    · subst e; rw [if_pos rfl] at ht; cases ht; exact h
    · rw [if_neg e] at ht; simp at ht

/-- What is known of the values that are not told outright. -/
def ExDone (l : List Oper) (rs : List RS) (p : Nat → Bool) (a : Act) (w : World) : Prop :=
  ∀ j s, rs[j]? = some (.spec s) → p j = true → ∃ o d v, l[j]? = some o ∧ o.dst = some d ∧ a.tmps[d]? = some v ∧ s.R v w
theorem ExDone.at {l : List Oper} {rs : List RS} {p : Nat → Bool} (h : ExDone l rs p a w) (j : Nat) {d : Nat} {s : RSpec} (hr : rs[j]? = some (.spec s)) (hp : p j = true) (hd : (l[j]?).bind (·.dst) = some d) : ∃ v, a.tmps[d]? = some v ∧ s.R v w := by
  obtain ⟨o, d', v, h1, h2, h3, h4⟩ := h j s hr hp
  rw [h1, Option.bind_some, h2] at hd
  cases hd
  exact ⟨v, h3, h4⟩

/-- What is to be shown of one operation. -/
def Ob1core (P : Program) (w0 w1 : World) (D B : List Nat) (n : Nat) (H : Hp) (ts : List Nat) (es : List Early) (l : List Oper) (rs : List RS) (F : Fr) (i : Nat) (o : Oper) (s : RS) : Prop :=
  if isOff ts es l i = true then ∃ v, s = .det v else ∀ a w, St w0 D n (depFr l rs i ++ baseFr l i F) H a w → Keeps B w1 w → ExDone l rs (fun j => edgeB l i j) a w →
    if isPure o then ∃ v, Yields P l.toArray o v a ∧ s.to.R v w ∧ s.to.blk v = []
    else if Region.wanted o (yielded l.toArray a.tmps) then
      o.wp P a w (fun a' w' => ∃ v, a' = a.put o.dst v ∧ Keeps [] w w' ∧ s.to.R v w' ∧ ∀ b, b ∈ s.to.blk v → w.heap.size ≤ b ∧ b < w'.heap.size) (fun _ _ _ => False)
    else s.to.R undef w ∧ s.to.blk undef = []
/-- (behind a structure, so that nobody reckons it out) -/
structure Ob1 (P : Program) (w0 w1 : World) (D B : List Nat) (n : Nat) (H : Hp) (ts : List Nat) (es : List Early) (l : List Oper) (rs : List RS) (F : Fr) (i : Nat) (o : Oper) (s : RS) : Prop where
  out : Ob1core P w0 w1 D B n H ts es l rs F i o s
def Obs (P : Program) (w0 w1 : World) (D B : List Nat) (n : Nat) (H : Hp) (ts : List Nat) (es : List Early) (l : List Oper) (rs : List RS) (F : Fr) : Nat → List Oper → List RS → Prop
  | _, [], [] => True
  | i, o :: r, s :: t => Ob1 P w0 w1 D B n H ts es l rs F i o s ∧ Obs P w0 w1 D B n H ts es l rs F (i + 1) r t
  | _, _, _ => False
theorem Obs.get {w1 : World} {l : List Oper} {rs : List RS} : ∀ (r : List Oper) (t : List RS) (k : Nat), Obs P w0 w1 D B n H ts es l rs F k r t → ∀ i o, r[i]? = some o → ∃ s, t[i]? = some s ∧ Ob1 P w0 w1 D B n H ts es l rs F (k + i) o s
  | [], _, _, _, i, o, h => by simp at h
  | _ :: _, [], _, hs, _, _, _ => by simp [Obs] at hs
  | x :: r, s :: t, k, hs, 0, o, h => by simp at h; subst h; exact ⟨s, rfl, hs.1⟩
  | x :: r, s :: t, k, hs, i + 1, o, h => by
    simp at h
    obtain ⟨u, h1, h2⟩ := Obs.get r t (k + 1) hs.2 i o h
    exact ⟨u, by simpa using h1, by rw [show k + (i + 1) = k + 1 + i by omega]; exact h2⟩

structure DrawEnd (w0 : World) (H : Hp) (l : List Oper) (rs : List RS) (a : Act) (w : World) : Prop where
  ex : ExDone l rs (fun _ => true) a w
  ap : ∀ (i j : Nat), i ≠ j → ∀ (s t : RSpec) (di dj : Nat) (vi vj : Value) (b : Nat), rs[i]? = some (.spec s) → rs[j]? = some (.spec t) → (l[i]?).bind (·.dst) = some di → (l[j]?).bind (·.dst) = some dj → a.tmps[di]? = some vi → a.tmps[dj]? = some vj → b ∈ s.blk vi → b ∉ t.blk vj
  old : ∀ (i : Nat) (s : RSpec) (di : Nat) (vi : Value) (b : Nat), rs[i]? = some (.spec s) → (l[i]?).bind (·.dst) = some di → a.tmps[di]? = some vi → b ∈ s.blk vi → b ∉ H.map Prod.fst ∧ w0.heap.size ≤ b
theorem DrawEnd.new {l : List Oper} {rs : List RS} (h : DrawEnd w0 H l rs a w) (j : Nat) {d : Nat} {ob : Obj} (hr : rs[j]? = some (.spec (.new ob))) (hd : (l[j]?).bind (·.dst) = some d) :
    ∃ b, a.tmps[d]? = some (.pointer (some ⟨b, 0, none⟩)) ∧ w.heap[b]? = some ob ∧ b ∉ H.map Prod.fst ∧ w0.heap.size ≤ b := by
  obtain ⟨v, h1, b, e, h2⟩ := h.ex.at j hr rfl hd
  subst e
  exact ⟨b, h1, h2, h.old j _ d _ b hr hd h1 (by simp [RSpec.new, ptrBlk])⟩
theorem DrawEnd.new_ne {l : List Oper} {rs : List RS} (h : DrawEnd w0 H l rs a w) (i j : Nat) {di dj b c : Nat} {ob oc : Obj} (hne : i ≠ j) (hri : rs[i]? = some (.spec (.new ob))) (hrj : rs[j]? = some (.spec (.new oc))) (hdi : (l[i]?).bind (·.dst) = some di) (hdj : (l[j]?).bind (·.dst) = some dj)
    (hi : a.tmps[di]? = some (.pointer (some ⟨b, 0, none⟩))) (hj : a.tmps[dj]? = some (.pointer (some ⟨c, 0, none⟩))) : c ≠ b := by
  have := h.ap i j hne _ _ di dj _ _ b hri hrj hdi hdj hi hj (by simp [RSpec.new, ptrBlk])
  intro e
  subst e
  exact this (by simp [RSpec.new, ptrBlk])
theorem DrawEnd.cell {l : List Oper} {rs : List RS} (h : DrawEnd w0 H l rs a w) (j : Nat) {d : Nat} {ty : TypeId} {sz : Nat} (hr : rs[j]? = some (.spec (.cell ty sz))) (hd : (l[j]?).bind (·.dst) = some d) :
    ∃ b, a.tmps[d]? = some (.pointer (some ⟨b, 0, none⟩)) ∧ b ∉ H.map Prod.fst ∧ w0.heap.size ≤ b := by
  obtain ⟨v, h1, b, cs, e, h2, h3⟩ := h.ex.at j hr rfl hd
  subst e
  exact ⟨b, h1, h.old j _ d _ b hr hd h1 (by simp [RSpec.cell, ptrBlk])⟩
theorem DrawEnd.cell_ne {l : List Oper} {rs : List RS} (h : DrawEnd w0 H l rs a w) (i j : Nat) {di dj b c : Nat} {ty uy : TypeId} {sz uz : Nat} (hne : i ≠ j) (hri : rs[i]? = some (.spec (.cell ty sz))) (hrj : rs[j]? = some (.spec (.cell uy uz))) (hdi : (l[i]?).bind (·.dst) = some di) (hdj : (l[j]?).bind (·.dst) = some dj)
    (hi : a.tmps[di]? = some (.pointer (some ⟨b, 0, none⟩))) (hj : a.tmps[dj]? = some (.pointer (some ⟨c, 0, none⟩))) : c ≠ b := by
  have := h.ap i j hne _ _ di dj _ _ b hri hrj hdi hdj hi hj (by simp [RSpec.cell, ptrBlk])
  intro e
  subst e
  exact this (by simp [RSpec.cell, ptrBlk])
theorem DrawEnd.ptr_ne {l : List Oper} {rs : List RS} (h : DrawEnd w0 H l rs a w) (i j : Nat) {di dj b c : Nat} {s t : RSpec} (hne : i ≠ j) (hri : rs[i]? = some (.spec s)) (hrj : rs[j]? = some (.spec t)) (hs : s.blk = ptrBlk) (ht : t.blk = ptrBlk)
    (hdi : (l[i]?).bind (·.dst) = some di) (hdj : (l[j]?).bind (·.dst) = some dj) (hi : a.tmps[di]? = some (.pointer (some ⟨b, 0, none⟩))) (hj : a.tmps[dj]? = some (.pointer (some ⟨c, 0, none⟩))) : c ≠ b := by
  have := h.ap i j hne _ _ di dj _ _ b hri hrj hdi hdj hi hj (by simp [hs, ptrBlk])
  intro e
  subst e
  exact this (by simp [ht, ptrBlk])
/-- What an early store has left, its pointer and its value known. -/
theorem Put.at {e : Early} (h : Put e a w) (st : St w0 D n F H a w) {b : Nat} (hd : F.lookup e.d = some (.pointer (some ⟨b, 0, none⟩))) {C : Array Value} (hs : F.lookup e.s = some (.agg C)) : w.heap[b]? = some (.cells C e.ty (0, 0)) := by
  obtain ⟨b', C', h1, h2, h3, h4⟩ := h
  rw [st.fr _ _ hd] at h1
  rw [st.fr _ _ hs] at h2
  cases h1; cases h2
  exact h4

/-- Q, and no panic. -/
def NP (Q : Exit → Act → World → Prop) : Exit → Act → World → Prop
  | .panic _, _, _ => False
  | e, a, w => Q e a w
theorem NP.normal (h : Q .normal a w) : NP Q .normal a w := h
def ESems (P : Program) (rs : List RS) (F : Fr) (HB : Hp) : List Early → Prop
  | [] => True
  | e :: r => ESem P (lookRs rs) F HB e ∧ ESems P rs F HB r
theorem ESems.get {rs : List RS} : ∀ {es : List Early}, ESems P rs F HB es → ∀ e, e ∈ es → ESem P (lookRs rs) F HB e
  | [], _, e, he => by simp at he
  | x :: r, h, e, he => by
    rcases List.mem_cons.1 he with rfl | he
    · exact h.1
    · exact ESems.get h.2 e he
theorem nodup_app {α : Type} {l k : List α} (h : (l ++ k).Nodup) : l.Nodup ∧ (∀ x, x ∈ l → x ∉ k) := by
  rw [List.nodup_append] at h
  exact ⟨h.1, fun x hx hk => h.2.2 x hx x hk rfl⟩
theorem x_drawT (st : St w0 D n F (HB ++ H) a w) {id : Nat} {l : List Oper} (ts : List Nat) (es : List Early) (rs : List RS) (hm : P.follows .mixedOrders = true) (hok : drawOk n ts es l = true) (hea : earlies ts es l = true) (hsem : ESems P rs F HB es) (hobs : Obs P w0 w D (HB.map Prod.fst) n H ts es l rs F 0 l rs)
    (fin : ∀ a' w', Keeps (HB.map Prod.fst) w w' → St w0 D n (allFr ts es l rs ++ endFr ts es l F) H a' w' → DrawEnd w0 (HB ++ H) l rs a' w' → (∀ e, e ∈ es → Put e a' w') →
      (∀ HB' : Hp, HB'.map Prod.fst = HB.map Prod.fst → (∀ h, h ∈ HB' → w'.heap[h.1]? = some h.2) → St w0 D n (allFr ts es l rs ++ endFr ts es l F) (HB' ++ H) a' w') →
      Wt P (NP Q) l (storeIdx ts es l).length (storeIdx ts es l) a' w') :
    (Code.region id l.toArray true).wp P Q a w := by
  obtain ⟨hsel, hfits⟩ := drawOk_fits hok
  unfold earlies at hea
  rw [Bool.and_eq_true] at hea
  have hes : ∀ e, e ∈ es → EText ts es l e := fun e he => earlyOk_text (List.all_eq_true.1 hea.1 e he)
  have hds : ∀ e e', e ∈ es → e' ∈ es → e = e' ∨ (e.i ≠ e'.i ∧ e.al ≠ e'.al) := fun e e' he he' => by
    have := List.all_eq_true.1 (List.all_eq_true.1 hea.2 e he) e' he'
    rw [Bool.or_eq_true] at this
    rcases this with h | h
    · exact .inl (of_decide_eq_true h)
    · rw [Bool.and_eq_true] at h
      exact .inr ⟨bne_iff_ne.1 h.1, of_decide_eq_true h.2⟩
  have hnd0 := st.nd
  rw [List.map_append] at hnd0
  obtain ⟨hnd, hdis⟩ := nodup_app hnd0
  have hown : ∀ b, b ∈ HB.map Prod.fst → b ∈ D ∨ w0.heap.size ≤ b := fun b hb => by
    obtain ⟨x, hx, rfl⟩ := List.mem_map.1 hb
    exact st.own x (List.mem_append_left _ hx)
  have stH : St w0 D n F H a w := st.heap (List.sublist_append_right _ _)
  refine wp_mono (Q := NP Q) ?_ (fun e a w h => by cases e <;> first | exact h | exact h.elim)
  have specOf : ∀ (i : Nat) (o : Oper), l[i]? = some o → ∃ s, rs[i]? = some s ∧ Ob1 P w0 w D (HB.map Prod.fst) n H ts es l rs F i o s := fun i o ho => by
    have := Obs.get l rs 0 hobs i o ho
    simpa using this
  have lk : ∀ (i : Nat) (s : RS), rs[i]? = some s → lookRs rs i = s.to := fun i s h => by unfold lookRs; rw [h]
  have lens : ∀ (i : Nat) (s : RS), rs[i]? = some s → ∃ o, l[i]? = some o := by
    have : ∀ (r : List Oper) (t : List RS) (k : Nat), Obs P w0 w D (HB.map Prod.fst) n H ts es l rs F k r t → r.length = t.length := by
      intro r
      induction r with
      | nil => intro t k h; cases t with
        | nil => rfl
        | cons _ _ => simp [Obs] at h
      | cons x r ih => intro t k h; cases t with
        | nil => simp [Obs] at h
        | cons y t => simp [ih t (k + 1) h.2]
    have hl := this l rs 0 hobs
    intro i s hs
    have hlt := (List.getElem?_eq_some_iff.1 hs).1
    exact ⟨_, List.getElem?_eq_getElem (by omega)⟩
  have nst : ∀ (j : Nat) (s : RSpec), rs[j]? = some (.spec s) → isTail ts es l j = false ∧ isEarly es j = false := fun j s hr => by
    cases hx : isOff ts es l j with
    | false => unfold isOff at hx; simpa using hx
    | true =>
      obtain ⟨oj, hj⟩ := lens j _ hr
      obtain ⟨s', hs', hob⟩ := specOf j oj hj
      rw [hr] at hs'; cases hs'
      replace hob := hob.out
      unfold Ob1core at hob
      rw [if_pos hx] at hob
      obtain ⟨v, hv⟩ := hob
      cases hv
  have nte : ∀ (j : Nat) (o : Oper) (d : Nat), l[j]? = some o → o.dst = some d → isEarly es j = false := fun j o d hj hd => by
    cases hx : isEarly es j with
    | false => rfl
    | true =>
      obtain ⟨e, he, rfl⟩ := early_of hx
      obtain ⟨oe, h1, _, _, h2⟩ := (hes e he).o
      rw [hj] at h1; cases h1
      rw [hd] at h2; cases h2
  refine wp_region_any hm ?_
  rw [List.size_toArray]
  refine draw_main (w0 := w0) (D := D) (n := n) (F := F) (H := H) (w1 := w) (HB := HB) (Rs := lookRs rs) (S := fun _ => False) hsel hfits hes hds hsem.get hnd hdis hown (fun i o ho => .inr ?_) (fun _ _ _ h => h) (fun a' w' st' hk hdone hap hold hput => ?_) l.length _ a _ ?_ (fun _ h => h.elim) ?_
  · obtain ⟨s, hs, hob⟩ := specOf i o ho
    replace hob := hob.out
    unfold Ob1core at hob
    by_cases hx : isOff ts es l i = true
    · unfold isOff at hx
      rw [Bool.or_eq_true] at hx
      exact hx.elim .inl fun h => .inr (.inl h)
    · rw [if_neg hx] at hob
      refine .inr (.inr fun a' w' st' hk hdone => ?_)
      have h1 := hob a' w' (st'.append fun t v ht => by
        obtain ⟨j, oj, hj, hrj, hd, hp⟩ := detFr_spec _ l rs 0 t v ht
        obtain ⟨oj', d, u, e1, e2, e3, e4⟩ := hdone j (by simpa using hp) (nte j oj t hj hd)
        rw [hj] at e1; cases e1
        rw [hd] at e2; cases e2
        rw [lk j _ hrj] at e4
        cases e4
        exact e3) hk (fun j s' hr hp => by
        obtain ⟨oj', d, u, e1, e2, e3, e4⟩ := hdone j hp (nst j s' hr).2
        rw [lk j _ hr] at e4
        exact ⟨oj', d, u, e1, e2, e3, e4⟩)
      rw [lk i s hs]
      exact h1
  · have stF : St w0 D n (allFr ts es l rs ++ endFr ts es l F) H a' w' := st'.append fun t v ht => by
      obtain ⟨j, oj, hj, hrj, hd, hnt⟩ := detFr_spec _ l rs 0 t v ht
      obtain ⟨oj', d, u, e1, e2, e3, e4⟩ := hdone j oj hj (by simpa using hnt) (nte j oj t hj hd)
      rw [hj] at e1; cases e1
      rw [hd] at e2; cases e2
      rw [lk j _ hrj] at e4
      cases e4
      exact e3
    refine fin a' w' hk stF ⟨fun j s hr _ => ?_, fun i j hne s t di dj vi vj b h1 h2 h3 h4 h5 h6 h7 => ?_, fun i s di vi b h1 h3 h5 h7 => ?_⟩ hput (fun HB' hmap hget => ?_)
    · obtain ⟨oj, hj⟩ := lens j _ hr
      have hs := nst j s hr
      obtain ⟨oj', d, u, e1, e2, e3, e4⟩ := hdone j oj hj hs.1 hs.2
      rw [lk j _ hr] at e4
      exact ⟨oj', d, u, e1, e2, e3, e4⟩
    · obtain ⟨oi, hi⟩ := lens i _ h1
      obtain ⟨oj, hj⟩ := lens j _ h2
      rw [hi, Option.bind_some] at h3
      rw [hj, Option.bind_some] at h4
      have := hap i j hne oi oj di dj vi vj b hi hj (nst i s h1).1 (nst j t h2).1 h3 h4 h5 h6
      rw [lk i _ h1, lk j _ h2] at this
      exact this h7
    · obtain ⟨oi, hi⟩ := lens i _ h1
      rw [hi, Option.bind_some] at h3
      have := hold i oi di vi b hi (nst i s h1).1 h3 h5
      rw [lk i _ h1] at this
      have := this h7
      refine ⟨?_, this.2.2⟩
      rw [List.map_append, List.mem_append, not_or]
      exact ⟨this.1, this.2.1⟩
    · refine ⟨stF.size, stF.dfr, stF.fr, fun x hx => ?_, fun x hx => ?_, ?_, stF.keeps⟩
      · rcases List.mem_append.1 hx with h | h
        · exact hget x h
        · exact stF.hp x h
      · rcases List.mem_append.1 hx with h | h
        · exact hown x.1 (hmap ▸ List.mem_map.2 ⟨x, h, rfl⟩)
        · exact stF.own x h
      · rw [List.map_append, hmap]; exact hnd0
  · have : cnt l.length (Array.replicate l.length false) = 0 := by
      unfold cnt
      rw [List.countP_eq_zero]
      intro i hi
      have := List.mem_range.1 hi
      simp [this]
    omega
  · have nl : ∀ i, (Array.replicate l.length false).getD i false = true → False := fun i hi => by
      revert hi; by_cases h : i < l.length <;> simp [h]
    refine ⟨by simp, fun i _ => ?_, fun k i hk => (nl k hk).elim, ?_, (Keeps.refl _ w).drew, fun t v ht _ => st.fr t v ht, fun i hi => (nl i hi).elim, fun i j _ _ _ _ _ _ _ _ hi => (nl i hi).elim, fun i _ _ _ _ hi => (nl i hi).elim, fun h b ob hb => ?_, fun e h he hal => ?_, fun e he hi => (nl _ hi).elim⟩
    · by_cases h : i < l.length <;> simp [h]
    · exact ⟨st.size, st.dfr, fun _ _ h => by simp at h, stH.hp, stH.own, stH.nd, st.keeps.drew⟩
    · exact lt_of_get (st.hp (b, ob) (List.mem_append_left _ (List.mem_of_getElem? hb)))
    · have h1 := (hsem.get e he).al
      rw [hal] at h1
      obtain ⟨b, cs, h2, h3, h4⟩ := h1
      exact ⟨b, cs, h2, by rw [h3]; rfl, st.fr _ _ h2, st.hp (b, _) (List.mem_append_left _ (List.mem_of_getElem? h3)), h4⟩
theorem x_drawE (st : St w0 D n F (HB ++ H) a w) {id : Nat} {l : List Oper} (ts : List Nat) (es : List Early) (rs : List RS) (hm : P.follows .mixedOrders = true) (hok : (drawOk n ts es l && chainB l (storeIdx ts es l)) = true) (hea : earlies ts es l = true) (hsem : ESems P rs F HB es) (hobs : Obs P w0 w D (HB.map Prod.fst) n H ts es l rs F 0 l rs)
    (fin : ∀ a' w', Keeps (HB.map Prod.fst) w w' → St w0 D n (allFr ts es l rs ++ endFr ts es l F) H a' w' → DrawEnd w0 (HB ++ H) l rs a' w' → (∀ e, e ∈ es → Put e a' w') →
      (∀ HB' : Hp, HB'.map Prod.fst = HB.map Prod.fst → (∀ h, h ∈ HB' → w'.heap[h.1]? = some h.2) → St w0 D n (allFr ts es l rs ++ endFr ts es l F) (HB' ++ H) a' w') →
      wpList P l.toArray (NP Q) ((storeIdx ts es l).filterMap (l[·]?)) a' w') :
    (Code.region id l.toArray true).wp P Q a w := by
  rw [Bool.and_eq_true] at hok
  refine x_drawT st ts es rs hm hok.1 hea hsem hobs fun a' w' h1 h2 h3 h4 h5 => ?_
  refine Wt.chain _ _ _ (List.nodup_range.filter _) (fun i hi => ?_) hok.2 (fin a' w' h1 h2 h3 h4 h5)
  exact ⟨_, List.getElem?_eq_getElem (List.mem_range.1 (List.mem_filter.1 hi).1)⟩
/-- The rule where no store is early. -/
theorem x_draw (st : St w0 D n F H a w) {id : Nat} {l : List Oper} (ts : List Nat) (rs : List RS) (hm : P.follows .mixedOrders = true) (hok : (drawOk n ts [] l && chainB l (storeIdx ts [] l)) = true) (hobs : Obs P w0 w D [] n H ts [] l rs F 0 l rs)
    (fin : ∀ a' w', Keeps [] w w' → St w0 D n (allFr ts [] l rs ++ endFr ts [] l F) H a' w' → DrawEnd w0 H l rs a' w' → wpList P l.toArray (NP Q) ((storeIdx ts [] l).filterMap (l[·]?)) a' w') :
    (Code.region id l.toArray true).wp P Q a w :=
  x_drawE (HB := []) st ts [] rs hm hok rfl trivial hobs fun a' w' hk st' he _ _ => fin a' w' hk st' he
end Go.Proofs.YtnkbhmonceiocaaDoor
