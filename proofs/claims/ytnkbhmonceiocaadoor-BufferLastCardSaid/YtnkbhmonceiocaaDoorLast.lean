/-
  The law BufferLast: for every input it returns true.
-/
import Derived.Test.YtnkbhmonceiocaaDoorFind
namespace Go.Proofs.YtnkbhmonceiocaaDoor
open Go Go.RowKit
namespace FLast
theorem apnil (w : World) : (Builtin.append_ #[32, 32] 32 #[.slice none 0 0, .slice none 0 0]).run Tryd.prog w = .ok (.slice none 0 0) w := by kernel_rfl
theorem bld25_0i64 (x0 : Int) (w : World) : (Instr.build 25 #[(0, .int .i64 x0)]).run Tryd.prog w = .ok (.agg #[.int .i64 x0, .int .i64 0]) w := by kernel_rfl
theorem bld36_0Agg_1i64 (x0_0 x0_1 : Int) (x1 : Int) (w : World) : (Instr.build 36 #[(0, .agg #[.int .i64 x0_0, .int .i64 x0_1]), (1, .int .i64 x1)]).run Tryd.prog w = .ok (.agg #[.int .i64 x0_0, .int .i64 x0_1, .int .i64 x1]) w := by kernel_rfl
theorem bt36 : (Tryd.prog.info? 36).map (·.bytes) = some 24 := by kernel_rfl
theorem ent7 (args : Array Value) (w : World) : (callFunc 7 args).run Tryd.prog w = .ok (.enter 7 args) w := enters_at Tryd.func7 (by kernel_rfl) rfl args w
theorem ent8 (args : Array Value) (w : World) : (callFunc 8 args).run Tryd.prog w = .ok (.enter 8 args) w := enters_at Tryd.func8 (by kernel_rfl) rfl args w
theorem ent9 (args : Array Value) (w : World) : (callFunc 9 args).run Tryd.prog w = .ok (.enter 9 args) w := enters_at Tryd.func9 (by kernel_rfl) rfl args w
theorem mixed : Tryd.prog.follows .mixedOrders = true := by kernel_rfl
theorem r36 : ∃ d, Tryd.prog.underlying 36 = some d ∧ d.isRow = true := ⟨_, Tryd.underlying36, by kernel_rfl⟩
theorem s2 : (Tryd.prog.info? 2).map (·.size) = some 1 := by kernel_rfl
theorem s36 : (Tryd.prog.info? 36).map (·.size) = some 3 := by kernel_rfl
theorem u2 : Tryd.prog.underlying 2 = some (.int .i64) := by kernel_rfl
theorem u31 : Tryd.prog.underlying 31 = some (.slice 2) := by kernel_rfl
theorem u32 : Tryd.prog.underlying 32 = some (.slice 36) := by kernel_rfl
theorem z36 : (Tryd.prog.info? 36).bind (·.zero) = some (.agg (#[.int .i64 0, .int .i64 0, .int .i64 0])) := by kernel_rfl
end FLast
open FLast
theorem Add_last0 (f : Nat → Int) (w0 : World) : Fn Tryd.prog 8 [.slice none 0 0, .agg #[.int .i64 0, .int .i64 0], .int .i64 (f 0)] w0 [] (fun v w' => ∃ g cap cur, v = .slice (some ⟨g, 0, none⟩) (lastS f (1)).length cap ∧ w'.heap[g]? = some (.cells cur 36 (0, 0)) ∧ w0.heap.size ≤ g ∧ (lastS f (1)).length ≤ cap ∧ cap ≤ maxLen ∧ cur.size = cap * 3 ∧ Cut cur (flatS (lastS f (1)))) := Add_nil 0 0 (f 0) w0
theorem Add_last {f : Nat → Int} {i g cap : Nat} {cur : Array Value} {w0 : World} (hb : w0.heap[g]? = some (.cells cur 36 (0, 0))) (hc : Cut cur (flatS (lastS f i))) (hcap : (lastS f i).length ≤ cap) :
    Fn Tryd.prog 8 [.slice (some ⟨g, 0, none⟩) (lastS f i).length cap, .agg #[.int .i64 ((i : Nat) : Int), .int .i64 0], .int .i64 (f i)] w0 [] (fun v w' => ∃ g cap cur, v = .slice (some ⟨g, 0, none⟩) (lastS f (i + 1)).length cap ∧ w'.heap[g]? = some (.cells cur 36 (0, 0)) ∧ w0.heap.size ≤ g ∧ (lastS f (i + 1)).length ≤ cap ∧ cap ≤ maxLen ∧ cur.size = cap * 3 ∧ Cut cur (flatS (lastS f (i + 1)))) := by
  have h := AddS_ok (l := lastS f i) ((i : Nat) : Int) 0 (f i) hb hc.holds hcap (by rw [lastS_len]; omega)
  rw [keep_last] at h
  exact h

set_option maxRecDepth 20000 in
set_option maxHeartbeats 1000000 in
theorem last_0 {w0 : World} {ad : Option Addr} {cap0 : Nat} (hG : Hid (Glob w0))  :
    Fn Tryd.prog 4 [.slice ad 0 cap0] w0 [] (fun v _ => v = .bool true) := by
  refine x_enter' (n := 66) Tryd.func4 rfl rfl (Nat.le_of_ble_eq_true rfl) fun a w st => ?_
  refine x_seq ?_
  refine x_region ?_
  refine xseg 1 st rfl ?_
  clear st a; intro a st
  refine x_nil ?_
  refine x_seq ?_
  refine x_seq ?_
  refine x_region ?_
  refine x_call st rfl rfl ent7 rfl rfl (by decide) ((known23 (hG.out.keep st.keeps (by simp)))) ?_
  intro a1 w1 v1 hk1 hv hn st1; subst hv
  clear hn hk1 st a w; revert st1; revert a1; revert w1; intro w a st
  refine xseg 1 st rfl ?_
  clear st a; intro a st
  refine x_nil ?_
  refine x_condF st rfl ?_
  refine wp_skip ?_
  refine x_seq ?_
  refine x_seq ?_
  refine x_region ?_
  refine xseg 1 st rfl ?_
  clear st a; intro a st
  refine x_run (v := .int .i64 0) st (r_len st rfl rfl u31) rfl rfl (by decide) ?_
  clear st a; intro a st
  refine xp st (.bool false) rfl rfl rfl rfl (by decide) ?_
  clear st a; intro a st
  refine x_nil ?_
  refine x_condF st rfl ?_
  refine wp_skip ?_
  refine x_seq ?_
  refine x_region ?_
  refine xseg 1 st rfl ?_
  clear st a; intro a st
  refine x_nil ?_
  refine x_seq ?_
  refine x_seq ?_
  refine x_region ?_
  refine xseg 1 st rfl ?_
  clear st a; intro a st
  refine x_nil ?_
  refine wp_block ?_
  refine wp_loop_rounds 1 ?_
  rw [rounds_succ]
  refine x_seq ?_
  refine x_seq ?_
  refine x_region ?_
  refine xseg 2 st rfl ?_
  clear st a; intro a st
  refine x_run (v := .int .i64 0) st (r_len st rfl rfl u31) rfl rfl (by decide) ?_
  clear st a; intro a st
  refine xp st (.bool false) rfl rfl rfl rfl (by decide) ?_
  clear st a; intro a st
  refine x_nil ?_
  refine x_condF st rfl ?_
  refine wp_exit ?_
  refine x_thenExit ?_
  refine x_thenExit ?_
  refine x_inBlock ?_
  refine x_seq ?_
  refine x_region ?_
  refine xseg 1 st rfl ?_
  clear st a; intro a st
  refine x_run (v := .int .i64 0) st (r_len st rfl rfl u31) rfl rfl (by decide) ?_
  clear st a; intro a st
  refine x_run (v := .int .i64 0) st (r_min (z := 0) st rfl rfl rfl rfl) rfl rfl (by decide) ?_
  clear st a; intro a st
  refine xseg 1 st rfl ?_
  clear st a; intro a st
  refine x_nil ?_
  refine x_seq ?_
  refine x_seq ?_
  refine x_region ?_
  refine xseg 1 st rfl ?_
  clear st a; intro a st
  refine x_run (v := .int .i64 0) st (r_len st rfl rfl u32) rfl rfl (by decide) ?_
  clear st a; intro a st
  refine xseg 1 st rfl ?_
  clear st a; intro a st
  refine xp st (.bool false) rfl rfl rfl rfl (by decide) ?_
  clear st a; intro a st
  refine x_nil ?_
  refine x_condF st rfl ?_
  refine wp_skip ?_
  refine x_seq ?_
  refine x_seq ?_
  refine x_region ?_
  refine xseg 1 st rfl ?_
  clear st a; intro a st
  refine x_nil ?_
  refine wp_block ?_
  refine wp_loop_rounds 1 ?_
  rw [rounds_succ]
  refine x_seq ?_
  refine x_seq ?_
  refine x_region ?_
  refine xseg 2 st rfl ?_
  clear st a; intro a st
  refine xp st (.bool false) rfl rfl rfl rfl (by decide) ?_
  clear st a; intro a st
  refine x_nil ?_
  refine x_condF st rfl ?_
  refine wp_exit ?_
  refine x_thenExit ?_
  refine x_thenExit ?_
  refine x_inBlock ?_
  refine x_seq ?_
  refine x_region ?_
  refine xseg 1 st rfl ?_
  clear st a; intro a st
  refine x_nil ?_
  refine x_wpret ?_
  exact x_retp st [.bool true] rfl ⟨rfl, trivial⟩ rfl (rfl)

set_option maxRecDepth 20000 in
set_option maxHeartbeats 1000000 in
theorem last_1 {w0 : World} {b off n cap0 : Nat} {f : Nat → Int} (hG : Hid (Glob w0)) (hn : 0 < n) (hm : n ≤ maxLen) (hf : Hid (∀ i, i < n → w0.cell? ⟨b, off + i, none⟩ = some (.int .i64 (f i))))  :
    Fn Tryd.prog 4 [.slice (some ⟨b, off, none⟩) n cap0] w0 [] (fun v _ => v = .bool true) := by
  unfold maxLen at hm
  refine x_enter' (n := 66) Tryd.func4 rfl rfl (Nat.le_of_ble_eq_true rfl) fun a w st => ?_
  refine x_seq ?_
  refine x_region ?_
  refine xseg 1 st rfl ?_
  clear st a; intro a st
  refine x_nil ?_
  refine x_seq ?_
  refine x_seq ?_
  refine x_region ?_
  refine x_call st rfl rfl ent7 rfl rfl (by decide) ((known23 (hG.out.keep st.keeps (by simp)))) ?_
  intro a1 w1 v1 hk1 hv hn st1; subst hv
  clear hn hk1 st a w; revert st1; revert a1; revert w1; intro w a st
  refine xseg 1 st rfl ?_
  clear st a; intro a st
  refine x_nil ?_
  refine x_condF st rfl ?_
  refine wp_skip ?_
  refine x_seq ?_
  refine x_seq ?_
  refine x_region ?_
  refine xseg 1 st rfl ?_
  clear st a; intro a st
  refine x_run (v := .int .i64 ((n : Nat) : Int)) st (r_len st rfl rfl u31) rfl rfl (by decide) ?_
  clear st a; intro a st
  refine xseg 1 st rfl ?_
  clear st a; intro a st
  refine x_nil ?_
  refine x_condD st rfl (fun h3 => ?_) (fun h3 => ?_)
  · refine x_seq ?_
    refine x_region ?_
    refine xseg 1 st rfl ?_
    clear st a; intro a st
    refine x_nil ?_
    refine x_wpret ?_
    refine x_thenRet ?_
    exact x_retp st [.bool true] rfl ⟨rfl, trivial⟩ rfl (rfl)
  · refine wp_skip ?_
    refine x_seq ?_
    refine x_region ?_
    refine xseg 1 st rfl ?_
    clear st a; intro a st
    refine x_nil ?_
    refine x_seq ?_
    refine x_seq ?_
    refine x_region ?_
    refine xseg 1 st rfl ?_
    clear st a; intro a st
    refine x_nil ?_
    refine wp_block ?_
    refine x_loop (G := Nat) (fun i a w => ∃ vl, St w0 [] 66 [(0, .slice (some ⟨b, off, none⟩) n cap0), (3, vl), (4, .int .i64 ((i : Nat) : Int))] ([] : Hp) a w ∧ (i ≤ n) ∧ ((i = 0 ∧ vl = .slice none 0 0) ∨ (0 < i ∧ ∃ g cap cur, vl = .slice (some ⟨g, 0, none⟩) (lastS f i).length cap ∧ w.heap[g]? = some (.cells cur 36 (0, 0)) ∧ w0.heap.size ≤ g ∧ (lastS f i).length ≤ cap ∧ Cut cur (flatS (lastS f i))))) (fun i => n - i) 0 ⟨_, st.pickTo [0, 3, 4] (by kernel_rfl), by omega, .inl ⟨rfl, rfl⟩⟩ ?_
    clear st a w; intro i a w ⟨vl, st, hin, hvl⟩
    refine x_seq ?_
    refine x_seq ?_
    refine x_region ?_
    refine xseg 2 st rfl ?_
    clear st a; intro a st
    refine x_run (v := .int .i64 ((n : Nat) : Int)) st (r_len st rfl rfl u31) rfl rfl (by decide) ?_
    clear st a; intro a st
    refine xseg 1 st rfl ?_
    clear st a; intro a st
    refine x_nil ?_
    refine x_condD st rfl (fun h7 => ?_) (fun h7 => ?_)
    · refine wp_skip ?_
      refine x_seq ?_
      refine wp_block ?_
      refine x_seq ?_
      rcases hvl with ⟨hi0, rfl⟩ | ⟨hi0, g, capg, curg, rfl, hbx, hox, h1g, h4g⟩
      · subst hi0
        refine x_region ?_
        refine xseg 1 st rfl ?_
        clear st a; intro a st
        refine x_run (v := .slice none 0 0) st (r_append st rfl rfl rfl (apnil _)) rfl rfl (by decide) ?_
        clear st a; intro a st
        refine xseg 1 st rfl ?_
        clear st a; intro a st
        refine x_nil ?_
        refine x_seq ?_
        refine x_region ?_
        refine xseg 2 st rfl ?_
        clear st a; intro a st
        refine x_run (v := .agg (#[.int .i64 0, .int .i64 0])) st (r_build st rfl rfl (bld25_0i64 _ _)) rfl rfl (by decide) ?_
        clear st a; intro a st
        refine xseg 2 st rfl ?_
        clear st a; intro a st
        refine x_run (v := .pointer (some ⟨b, off + 0, none⟩)) st (r_index st rfl rfl rfl (run_indexS' (k := 0) (off := off + 0) u31 s2 (by omega) (by first | rfl | omega) _)) rfl rfl (by decide) ?_
        clear st a; intro a st
        refine x_run (v := .int .i64 (f 0)) st (r_load st rfl rfl (run_loadC (st.keeps.cell (hf.out 0 (by omega))) u2 rfl)) rfl rfl (by decide) ?_
        clear st a; intro a st
        refine x_call st rfl rfl ent8 rfl rfl (by decide) ((Add_last0 f _)) ?_
        intro a1 w1 v1 hk1 hv hn1 st1; obtain ⟨g3, capg3, curg3, rfl, hbx, hlx, h1g3, h2g3, h3g3, h4g3⟩ := hv
        replace st1 := st1.add hbx (hn1 g3 hlx); replace h1g3 : (lastS f 1).length ≤ capg3 := h1g3; replace h4g3 : Cut curg3 (flatS (lastS f 1)) := h4g3; clear hn1 hk1 hbx hlx st a w; revert st1; revert a1; revert w1; intro w a st
        replace st := st.cast (show _ = (30, .slice (some ⟨g3, 0, none⟩) ((lastS f 1).length) capg3) :: _ from rfl) rfl
        refine xseg 1 st rfl ?_
        clear st a; intro a st
        refine x_nil ?_
        refine x_seq ?_
        refine x_seq ?_
        refine x_region ?_
        refine xseg 2 st rfl ?_
        clear st a; intro a st
        refine x_call st rfl rfl ent9 rfl rfl (by decide) ((Seen_nil _)) ?_
        intro a1 w1 v1 hk1 hv hn st1; subst hv
        clear hn hk1 st a w; revert st1; revert a1; revert w1; intro w a st
        refine xseg 1 st rfl ?_
        clear st a; intro a st
        refine x_nil ?_
        refine x_condF st rfl ?_
        refine wp_skip ?_
        refine x_region ?_
        refine xseg 2 st rfl ?_
        clear st a; intro a st
        refine x_nil ?_
        refine x_region ?_
        refine xseg 1 st rfl ?_
        clear st a; intro a st
        refine xp st (.int .i64 ((0 + 1 : Nat) : Int)) rfl (wi64 (by omega) (by omega)) rfl rfl (by decide) ?_
        clear st a; intro a st
        refine xseg 1 st rfl ?_
        clear st a; intro a st
        refine x_nil ?_
        have hb3 := st.at 0 rfl; have ho3 := (st.own _ (List.mem_of_getElem? (i := 0) rfl)).resolve_left (by simp)
        replace st := st.heap (H' := ([] : Hp)) (.cons _ .slnil)
        exact ⟨1, ⟨_, st.pickTo [0, 3, 4] (by kernel_rfl), by omega, .inr ⟨by omega, _, _, _, rfl, hb3, ho3, h1g3, h4g3⟩⟩, by omega⟩
      · skip
        have hll := lastS_len f i
        replace st := st.add hbx ⟨by simp, hox⟩; clear hbx hox
        refine x_region ?_
        refine xseg 1 st rfl ?_
        clear st a; intro a st
        refine x_appendN (size := 3) (news := flatS (lastS f i)) st rfl rfl rfl u32 z36 s36 bt36 rfl (flatS_len _) (h4g.holds.cell (st.at 0 rfl)) (by omega) (by omega) (by omega) rfl rfl (by decide) ?_
        clear st a; intro a w1 g2 cap2 cur2 hcap hcm hcs h4g2 hk st; clear hk hcap hcm hcs w; revert st; revert w1; intro w st
        refine xseg 1 st rfl ?_
        clear st a; intro a st
        refine x_nil ?_
        refine x_seq ?_
        refine x_region ?_
        refine xseg 2 st rfl ?_
        clear st a; intro a st
        refine x_run (v := .agg (#[.int .i64 ((i : Nat) : Int), .int .i64 0])) st (r_build st rfl rfl (bld25_0i64 _ _)) rfl rfl (by decide) ?_
        clear st a; intro a st
        refine xseg 2 st rfl ?_
        clear st a; intro a st
        refine x_run (v := .pointer (some ⟨b, off + i, none⟩)) st (r_index st rfl rfl rfl (run_indexS' (k := i) (off := off + i) u31 s2 (by omega) (by first | rfl | omega) _)) rfl rfl (by decide) ?_
        clear st a; intro a st
        refine x_run (v := .int .i64 (f i)) st (r_load st rfl rfl (run_loadC (st.keeps.cell (hf.out i (by omega))) u2 rfl)) rfl rfl (by decide) ?_
        clear st a; intro a st
        refine x_call st rfl rfl ent8 rfl rfl (by decide) ((Add_last (st.at 1 rfl) h4g h1g)) ?_
        intro a1 w1 v1 hk1 hv hn1 st1; obtain ⟨g3, capg3, curg3, rfl, hbx, hlx, h1g3, h2g3, h3g3, h4g3⟩ := hv
        replace st1 := st1.add hbx (hn1 g3 hlx); replace h1g3 : (lastS f (i + 1)).length ≤ capg3 := h1g3; replace h4g3 : Cut curg3 (flatS (lastS f (i + 1))) := h4g3; clear hn1 hk1 hbx hlx st a w; revert st1; revert a1; revert w1; intro w a st
        replace st := st.cast (show _ = (30, .slice (some ⟨g3, 0, none⟩) ((lastS f (i + 1)).length) capg3) :: _ from rfl) rfl
        refine xseg 1 st rfl ?_
        clear st a; intro a st
        refine x_nil ?_
        refine x_seq ?_
        refine x_seq ?_
        refine x_region ?_
        refine xseg 2 st rfl ?_
        clear st a; intro a st
        refine x_call st rfl rfl ent9 rfl rfl (by decide) ((Seen_eq (l := lastS f i) (st.at 1 rfl) h4g2.holds (st.at 2 rfl) h4g.holds rfl (by omega))) ?_
        intro a1 w1 v1 hk1 hv hn st1; subst hv
        clear hn hk1 st a w; revert st1; revert a1; revert w1; intro w a st
        refine xseg 1 st rfl ?_
        clear st a; intro a st
        refine x_nil ?_
        refine x_condF st rfl ?_
        refine wp_skip ?_
        refine x_region ?_
        refine xseg 2 st rfl ?_
        clear st a; intro a st
        refine x_nil ?_
        refine x_region ?_
        refine xseg 1 st rfl ?_
        clear st a; intro a st
        refine xp st (.int .i64 ((i + 1 : Nat) : Int)) rfl (wi64 (by omega) (by omega)) rfl rfl (by decide) ?_
        clear st a; intro a st
        refine xseg 1 st rfl ?_
        clear st a; intro a st
        refine x_nil ?_
        have hb3 := st.at 0 rfl; have ho3 := (st.own _ (List.mem_of_getElem? (i := 0) rfl)).resolve_left (by simp)
        replace st := st.heap (H' := ([] : Hp)) (.cons _ (.cons _ (.cons _ .slnil)))
        exact ⟨i + 1, ⟨_, st.pickTo [0, 3, 4] (by kernel_rfl), by omega, .inr ⟨by omega, _, _, _, rfl, hb3, ho3, h1g3, h4g3⟩⟩, by omega⟩
    · refine wp_exit ?_
      refine x_thenExit ?_
      refine x_thenExit ?_
      refine x_inBlock ?_
      refine x_seq ?_
      obtain ⟨_, g, capg, curg, rfl, hbx, hox, h1g, h4g⟩ := hvl.resolve_left (fun h => by omega); clear hvl
      obtain rfl : n = i := by omega
      have hll := lastS_len f n
      replace st := st.add hbx ⟨by simp, hox⟩; clear hbx hox
      refine x_region ?_
      refine xseg 1 st rfl ?_
      clear st a; intro a st
      refine x_run (v := .int .i64 ((n : Nat) : Int)) st (r_len st rfl rfl u31) rfl rfl (by decide) ?_
      clear st a; intro a st
      refine x_run (v := .int .i64 ((min n 8 : Nat) : Int)) st (r_min (z := ((min n 8 : Nat) : Int)) st rfl rfl rfl (by omega)) rfl rfl (by decide) ?_
      clear st a; intro a st
      refine xseg 1 st rfl ?_
      clear st a; intro a st
      refine x_nil ?_
      refine x_seq ?_
      refine x_seq ?_
      refine x_region ?_
      refine xseg 1 st rfl ?_
      clear st a; intro a st
      refine x_run (v := .int .i64 (((lastS f n).length : Nat) : Int)) st (r_len st rfl rfl u32) rfl rfl (by decide) ?_
      clear st a; intro a st
      refine xseg 1 st rfl ?_
      clear st a; intro a st
      refine xp st (.bool false) rfl (beq (by rw [lastS_len]; simp)) rfl rfl (by decide) ?_
      clear st a; intro a st
      refine x_nil ?_
      refine x_condF st rfl ?_
      refine wp_skip ?_
      refine x_seq ?_
      refine x_seq ?_
      refine x_region ?_
      refine xseg 1 st rfl ?_
      clear st a; intro a st
      refine x_nil ?_
      refine wp_block ?_
      refine x_loop (G := Nat) (fun k a w => St w0 [] 66 [(0, .slice (some ⟨b, off, none⟩) n cap0), (3, .slice (some ⟨g, 0, none⟩) ((lastS f n).length) capg), (7, .int .i64 ((min n 8 : Nat) : Int)), (8, .int .i64 ((k : Nat) : Int))] ([(g, .cells curg 36 (0, 0))] : Hp) a w ∧ (k ≤ min n 8)) (fun k => min n 8 - k) 0 ⟨st.pickTo [0, 3, 7, 8] (by kernel_rfl), by omega⟩ ?_
      clear st a w; intro k a w ⟨st, hkn⟩
      refine x_seq ?_
      refine x_seq ?_
      refine x_region ?_
      refine xseg 3 st rfl ?_
      clear st a; intro a st
      refine x_nil ?_
      refine x_condD st rfl (fun h18 => ?_) (fun h18 => ?_)
      · refine wp_skip ?_
        refine x_seq ?_
        refine wp_block ?_
        refine x_seq ?_
        refine x_region ?_
        refine xseg 1 st rfl ?_
        clear st a; intro a st
        refine x_run (v := .int .i64 ((n : Nat) : Int)) st (r_len st rfl rfl u31) rfl rfl (by decide) ?_
        clear st a; intro a st
        refine xseg 1 st rfl ?_
        clear st a; intro a st
        refine xp st (.int .i64 ((n - min n 8 : Nat) : Int)) rfl (wi64 (by omega) (by omega)) rfl rfl (by decide) ?_
        clear st a; intro a st
        refine xseg 1 st rfl ?_
        clear st a; intro a st
        refine xp st (.int .i64 ((n - min n 8 + k : Nat) : Int)) rfl (wi64 (by omega) (by omega)) rfl rfl (by decide) ?_
        clear st a; intro a st
        refine xseg 1 st rfl ?_
        clear st a; intro a st
        refine x_nil ?_
        refine x_seq ?_
        refine x_draw st [] [.det (.slice (some ⟨g, 0, none⟩) ((lastS f n).length) capg), .det (.int .i64 ((k : Nat) : Int)), .det (.pointer (some ⟨g, k * 3, none⟩)), .det (.agg (#[.int .i64 ((sn (lastS f n) k).x), .int .i64 ((sn (lastS f n) k).y), .int .i64 ((sn (lastS f n) k).r)])), .det (.int .i64 ((n - min n 8 + k : Nat) : Int)), .det (.agg (#[.int .i64 ((n - min n 8 + k : Nat) : Int), .int .i64 0])), .det (.slice (some ⟨b, off, none⟩) n cap0), .det (.int .i64 ((n - min n 8 + k : Nat) : Int)), .det (.pointer (some ⟨b, off + (n - min n 8 + k), none⟩)), .det (.int .i64 (f (n - min n 8 + k))), .det (.agg (#[.int .i64 ((n - min n 8 + k : Nat) : Int), .int .i64 0, .int .i64 (f (n - min n 8 + k))])), .det (.bool false)] mixed (by kernel_rfl)
          ⟨ob_p (Fi := [(3, .slice (some ⟨g, 0, none⟩) ((lastS f n).length) capg)]) (by kernel_rfl) rfl rfl ⟨by kernel_rfl, trivial⟩ rfl rfl,
            ob_p (Fi := [(8, .int .i64 ((k : Nat) : Int))]) (by kernel_rfl) rfl rfl ⟨by kernel_rfl, trivial⟩ rfl rfl,
            ob_run (Fi := [(54, .slice (some ⟨g, 0, none⟩) ((lastS f n).length) capg), (55, .int .i64 ((k : Nat) : Int))]) (by kernel_rfl) rfl rfl ⟨by kernel_rfl, by kernel_rfl, trivial⟩ (fun a w st hk hxx w' => r_index st rfl rfl rfl (run_indexS' (k := k) (off := k * 3) u32 s36 (by omega) (by first | rfl | omega) _)),
            ob_w (Fi := [(56, .pointer (some ⟨g, k * 3, none⟩))]) (by kernel_rfl) rfl rfl ⟨by kernel_rfl, trivial⟩ (fun a w st hk hxx => r_load st rfl rfl (run_loadL [.int .i64 ((sn (lastS f n) k).x), .int .i64 ((sn (lastS f n) k).y), .int .i64 ((sn (lastS f n) k).r)] (st.at 0 rfl) r36.choose_spec.1 r36.choose_spec.2 s36 rfl (cut_s h4g (by rw [lastS_len]; omega)))),
            ob_p (Fi := [(9, .int .i64 ((n - min n 8 + k : Nat) : Int))]) (by kernel_rfl) rfl rfl ⟨by kernel_rfl, trivial⟩ rfl rfl,
            ob_run (Fi := [(58, .int .i64 ((n - min n 8 + k : Nat) : Int))]) (by kernel_rfl) rfl rfl ⟨by kernel_rfl, trivial⟩ (fun a w st hk hxx w' => r_build st rfl rfl (bld25_0i64 _ _)),
            ob_p (Fi := [(0, .slice (some ⟨b, off, none⟩) n cap0)]) (by kernel_rfl) rfl rfl ⟨by kernel_rfl, trivial⟩ rfl rfl,
            ob_p (Fi := [(9, .int .i64 ((n - min n 8 + k : Nat) : Int))]) (by kernel_rfl) rfl rfl ⟨by kernel_rfl, trivial⟩ rfl rfl,
            ob_run (Fi := [(60, .slice (some ⟨b, off, none⟩) n cap0), (61, .int .i64 ((n - min n 8 + k : Nat) : Int))]) (by kernel_rfl) rfl rfl ⟨by kernel_rfl, by kernel_rfl, trivial⟩ (fun a w st hk hxx w' => r_index st rfl rfl rfl (run_indexS' (k := n - min n 8 + k) (off := off + (n - min n 8 + k)) u31 s2 (by omega) (by first | rfl | omega) _)),
            ob_w (Fi := [(62, .pointer (some ⟨b, off + (n - min n 8 + k), none⟩))]) (by kernel_rfl) rfl rfl ⟨by kernel_rfl, trivial⟩ (fun a w st hk hxx => r_load st rfl rfl (run_loadC (st.keeps.cell (hf.out (n - min n 8 + k) (by omega))) u2 rfl)),
            ob_run (Fi := [(59, .agg (#[.int .i64 ((n - min n 8 + k : Nat) : Int), .int .i64 0])), (63, .int .i64 (f (n - min n 8 + k)))]) (by kernel_rfl) rfl rfl ⟨by kernel_rfl, by kernel_rfl, trivial⟩ (fun a w st hk hxx w' => r_build st rfl rfl (bld36_0Agg_1i64 _ _ _ _)),
            ob_run (Fi := [(57, .agg (#[.int .i64 ((sn (lastS f n) k).x), .int .i64 ((sn (lastS f n) k).y), .int .i64 ((sn (lastS f n) k).r)])), (64, .agg (#[.int .i64 ((n - min n 8 + k : Nat) : Int), .int .i64 0, .int .i64 (f (n - min n 8 + k))]))]) (by kernel_rfl) rfl rfl ⟨by kernel_rfl, by kernel_rfl, trivial⟩ (fun a w st hk hxx w' => (by rw [show (.bool false : Value) = .bool (!((((sn (lastS f n) k).x) == ((n - min n 8 + k : Nat) : Int) && ((sn (lastS f n) k).y) == 0) && ((sn (lastS f n) k).r) == (f (n - min n 8 + k)))) from (by rw [sn_last (by omega)]; simp)]; exact r_neqAgg st rfl rfl rfl guard_sn (bin_snN ((sn (lastS f n) k).x) ((sn (lastS f n) k).y) ((sn (lastS f n) k).r) ((n - min n 8 + k : Nat) : Int) 0 (f (n - min n 8 + k)) _))), trivial⟩ ?_
        intro a1 w1 hk1 st1 he
        clear hk1 st a w; revert st1 he; revert a1; revert w1; intro w a st he
        replace st := st.pickTo (F' := [(0, .slice (some ⟨b, off, none⟩) n cap0), (3, .slice (some ⟨g, 0, none⟩) ((lastS f n).length) capg), (7, .int .i64 ((min n 8 : Nat) : Int)), (8, .int .i64 ((k : Nat) : Int)), (43, .int .i64 ((k : Nat) : Int)), (44, .int .i64 ((min n 8 : Nat) : Int)), (45, .bool (decide (((k : Nat) : Int) < ((min n 8 : Nat) : Int)))), (48, .slice (some ⟨b, off, none⟩) n cap0), (49, .int .i64 ((n : Nat) : Int)), (50, .int .i64 ((min n 8 : Nat) : Int)), (51, .int .i64 ((n - min n 8 : Nat) : Int)), (52, .int .i64 ((k : Nat) : Int)), (53, .int .i64 ((n - min n 8 + k : Nat) : Int)), (9, .int .i64 ((n - min n 8 + k : Nat) : Int)), (65, .bool false)]) [0, 3, 7, 8, 43, 44, 45, 48, 49, 50, 51, 52, 53, 9, 65] (by kernel_rfl)
        clear he
        change wpList _ _ _ [] _ _
        refine x_nil ?_
        show NP _ _ _ _
        refine NP.normal ?_
        refine x_condF st rfl ?_
        refine wp_skip ?_
        refine x_region ?_
        refine xseg 1 st rfl ?_
        clear st a; intro a st
        refine xp st (.int .i64 ((k + 1 : Nat) : Int)) rfl (wi64 (by omega) (by omega)) rfl rfl (by decide) ?_
        clear st a; intro a st
        refine xseg 1 st rfl ?_
        clear st a; intro a st
        refine x_nil ?_
        exact ⟨k + 1, ⟨st.pickTo [0, 3, 7, 8] (by kernel_rfl), by omega⟩, by omega⟩
      · refine wp_exit ?_
        refine x_thenExit ?_
        refine x_thenExit ?_
        refine x_inBlock ?_
        refine x_seq ?_
        refine x_region ?_
        refine xseg 1 st rfl ?_
        clear st a; intro a st
        refine x_nil ?_
        refine x_wpret ?_
        exact x_retp st [.bool true] rfl ⟨rfl, trivial⟩ rfl (rfl)

end Go.Proofs.YtnkbhmonceiocaaDoor
