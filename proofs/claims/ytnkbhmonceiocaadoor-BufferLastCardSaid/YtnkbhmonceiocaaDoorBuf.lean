/-
  The package buffer of the program: Add, and slices.Clone of ranges.
-/
import Derived.Test.YtnkbhmonceiocaaDoorCircb
import Derived.Test.YtnkbhmonceiocaaDoorSeenP
namespace Go.Proofs.YtnkbhmonceiocaaDoor
open Go Go.RowKit
namespace FBuf
theorem bld36_0Agg_1i64 (x0_0 x0_1 : Int) (x1 : Int) (w : World) : (Instr.build 36 #[(0, .agg #[.int .i64 x0_0, .int .i64 x0_1]), (1, .int .i64 x1)]).run Tryd.prog w = .ok (.agg #[.int .i64 x0_0, .int .i64 x0_1, .int .i64 x1]) w := by kernel_rfl
theorem bsl0 (w : World) : (Instr.buildSlice 32 0 #[]).run Tryd.prog w = .ok (.slice (some ⟨w.heap.size, 0, none⟩) 0 0) (w.alloc (.cells #[] 36 (0, 0))) := by kernel_rfl
theorem bsl32_1_1 (x0_0 : Int) (x0_1 : Int) (x0_2 : Int) (w : World) : (Instr.buildSlice 32 1 #[(0, .agg #[.int .i64 x0_0, .int .i64 x0_1, .int .i64 x0_2])]).run Tryd.prog w = .ok (.slice (some ⟨w.heap.size, 0, none⟩) 1 1) (w.alloc (.cells #[.int .i64 x0_0, .int .i64 x0_1, .int .i64 x0_2] 36 (0, 0))) := by kernel_rfl
theorem bt36 : (Tryd.prog.info? 36).map (·.bytes) = some 24 := by kernel_rfl
theorem ent22 (args : Array Value) (w : World) : (callFunc 22 args).run Tryd.prog w = .ok (.enter 22 args) w := enters_at Tryd.func22 (by kernel_rfl) rfl args w
theorem mixed : Tryd.prog.follows .mixedOrders = true := by kernel_rfl
theorem r25 : ∃ d, Tryd.prog.underlying 25 = some d ∧ d.isRow = true := ⟨_, Tryd.underlying25, by kernel_rfl⟩
theorem s25 : (Tryd.prog.info? 25).map (·.size) = some 2 := by kernel_rfl
theorem s36 : (Tryd.prog.info? 36).map (·.size) = some 3 := by kernel_rfl
theorem u32 : Tryd.prog.underlying 32 = some (.slice 36) := by kernel_rfl
theorem z36 : (Tryd.prog.info? 36).bind (·.zero) = some (.agg (#[.int .i64 0, .int .i64 0, .int .i64 0])) := by kernel_rfl
end FBuf
open FBuf
set_option maxRecDepth 20000 in
set_option maxHeartbeats 1000000 in
theorem cloneS_ok {w0 : World} {b off n cap0 : Nat} {xs : List Value} {cur0 : Array Value} (hb : Hid (w0.heap[b]? = some (.cells cur0 36 (0, 0)))) (hc : Hid (Holds cur0 off xs)) (h1 : ∀ u ∈ xs, u.oneCell' = true) (hl : xs.length = n * 3) (hn : n ≤ 1073741824)  :
    Fn Tryd.prog 22 [.slice (some ⟨b, off, none⟩) n cap0] w0 [] (fun v w' => ∃ g cap cur, v = .slice (some ⟨g, 0, none⟩) n cap ∧ w'.heap[g]? = some (.cells cur 36 (0, 0)) ∧ w0.heap.size ≤ g ∧ n ≤ cap ∧ cap ≤ maxLen ∧ cur.size = cap * 3 ∧ Cut cur xs) := by
  refine x_enter' (n := 8) Tryd.func22 rfl rfl (Nat.le_of_ble_eq_true rfl) fun a w st => ?_
  refine x_seq ?_
  refine x_region ?_
  refine xseg 1 st rfl ?_
  clear st a; intro a st
  refine x_nil ?_
  refine x_seq ?_
  refine x_seq ?_
  refine x_region ?_
  refine xseg 1 st rfl ?_
  clear st a; intro a st
  refine x_run (v := .bool false) st (r_eqSlNil st rfl rfl u32) rfl rfl (by decide) ?_
  clear st a; intro a st
  refine x_nil ?_
  refine x_condF st rfl ?_
  refine wp_skip ?_
  refine x_seq ?_
  refine x_region ?_
  refine x_bslice st rfl rfl bsl0 rfl rfl (by decide) ?_
  clear st a; intro a w b1 st
  refine xseg 1 st rfl ?_
  clear st a; intro a st
  refine x_append (size := 3) (xs := []) (news := xs) (z := (.agg (#[.int .i64 0, .int .i64 0, .int .i64 0]))) st 0 rfl rfl rfl rfl (Nat.le_refl 0) rfl rfl rfl u32 z36 s36 bt36 rfl hl (hc.out.cell (st.old hb.out (by simp))) h1 (by omega) (by omega) (by decide) rfl rfl (by decide) ?_
  clear st a; intro a w1 g cap cur hcap hcm hcs hcut hk st; clear hk w; revert st; revert w1; intro w st
  simp only [Nat.zero_add, List.nil_append] at hcap hcut
  replace st := st.cast (show _ = (7, Value.slice (some ⟨g, 0, none⟩) n cap) :: _ from by rw [Nat.zero_add]) rfl
  refine xseg 1 st rfl ?_
  clear st a; intro a st
  refine x_nil ?_
  refine x_wpret ?_
  exact x_retp st [.slice (some ⟨g, 0, none⟩) n cap] rfl ⟨rfl, trivial⟩ rfl (⟨g, cap, cur, rfl, st.at 0 rfl, (st.own _ (List.mem_of_getElem? (i := 0) rfl)).resolve_left (by simp), hcap, hcm, hcs, hcut⟩)

set_option maxRecDepth 20000 in
set_option maxHeartbeats 1000000 in
theorem cloneS_nil   (w0 : World) :
    Fn Tryd.prog 22 [.slice none 0 0] w0 [] (fun v _ => v = .slice none 0 0) := by
  refine x_enter' (n := 8) Tryd.func22 rfl rfl (Nat.le_of_ble_eq_true rfl) fun a w st => ?_
  refine x_seq ?_
  refine x_region ?_
  refine xseg 1 st rfl ?_
  clear st a; intro a st
  refine x_nil ?_
  refine x_seq ?_
  refine x_seq ?_
  refine x_region ?_
  refine xseg 1 st rfl ?_
  clear st a; intro a st
  refine x_run (v := .bool true) st (r_eqSlNil0 st rfl rfl u32) rfl rfl (by decide) ?_
  clear st a; intro a st
  refine x_nil ?_
  refine x_condT st rfl ?_
  refine x_seq ?_
  refine x_region ?_
  refine xseg 1 st rfl ?_
  clear st a; intro a st
  refine x_nil ?_
  refine x_wpret ?_
  refine x_thenRet ?_
  exact x_retp st [.slice none 0 0] rfl ⟨rfl, trivial⟩ rfl (rfl)

set_option maxRecDepth 20000 in
set_option maxHeartbeats 1000000 in
theorem Add_nil  (x y r : Int) (w0 : World) :
    Fn Tryd.prog 8 [.slice none 0 0, .agg (#[.int .i64 x, .int .i64 y]), .int .i64 r] w0 [] (fun v w' => ∃ g cap cur, v = .slice (some ⟨g, 0, none⟩) 1 cap ∧ w'.heap[g]? = some (.cells cur 36 (0, 0)) ∧ w0.heap.size ≤ g ∧ 1 ≤ cap ∧ cap ≤ maxLen ∧ cur.size = cap * 3 ∧ Cut cur (flatS [⟨x, y, r⟩])) := by
  refine x_enter' (n := 20) Tryd.func8 rfl rfl (Nat.le_of_ble_eq_true rfl) fun a w st => ?_
  refine x_seq ?_
  refine x_region ?_
  refine x_box st rfl rfl rfl rfl (by decide) ?_
  clear st a; intro a w b1 st
  refine xseg 1 st rfl ?_
  clear st a; intro a st
  refine x_nil ?_
  refine x_seq ?_
  refine x_draw st [12] [.det (.slice none 0 0), .det (.slice none 0 0), .det (.int .i64 0), .det (.int .i64 (-8)), .det (.int .i64 (-7)), .det (.int .i64 0), .det (.slice none 0 0), .det (.slice none 0 0), .det (.agg (#[.int .i64 x, .int .i64 y])), .det (.int .i64 r), .det (.agg (#[.int .i64 x, .int .i64 y, .int .i64 r])), .spec (.slc 1 (.cells (#[.int .i64 x, .int .i64 y, .int .i64 r]) 36 (0, 0))), .det undef, .det undef] mixed (by kernel_rfl)
    ⟨ob_p (Fi := [(0, .slice none 0 0)]) (by kernel_rfl) rfl rfl ⟨by kernel_rfl, trivial⟩ rfl rfl,
      ob_p (Fi := [(0, .slice none 0 0)]) (by kernel_rfl) rfl rfl ⟨by kernel_rfl, trivial⟩ rfl rfl,
      ob_w (Fi := [(8, .slice none 0 0)]) (by kernel_rfl) rfl rfl ⟨by kernel_rfl, trivial⟩ (fun a w st hk hxx => r_len st rfl rfl u32),
      ob_p (Fi := [(9, .int .i64 0)]) (by kernel_rfl) rfl rfl ⟨by kernel_rfl, trivial⟩ rfl (wi64 (by omega) (by omega)),
      ob_p (Fi := [(10, .int .i64 (-8))]) (by kernel_rfl) rfl rfl ⟨by kernel_rfl, trivial⟩ rfl (wi64 (by omega) (by omega)),
      ob_w (Fi := [(11, .int .i64 (-7))]) (by kernel_rfl) rfl rfl ⟨by kernel_rfl, trivial⟩ (fun a w st hk hxx => r_max (z := 0) st rfl rfl rfl (by omega)),
      ob_run (Fi := [(7, .slice none 0 0), (12, .int .i64 0)]) (by kernel_rfl) rfl rfl ⟨by kernel_rfl, by kernel_rfl, trivial⟩ (fun a w st hk hxx w' => r_slice st rfl rfl rfl rfl rfl rfl ⟨rfl, rfl⟩ (run_sliceNil u32 s36 _)),
      ob_call (Fi := [(13, .slice none 0 0)]) (by kernel_rfl) rfl ent22 rfl ⟨by kernel_rfl, trivial⟩ rfl (fun a w st hk hxx => (cloneS_nil _)) (fun _ _ _ _ hp => ⟨hp, fun b hb => by cases hb⟩),
      ob_w (Fi := [(4, .pointer (some ⟨b1, 0, none⟩))]) (by kernel_rfl) rfl rfl ⟨by kernel_rfl, trivial⟩ (fun a w st hk hxx => r_load st rfl rfl (run_loadW (st.at 0 rfl) r25.choose_spec.1 r25.choose_spec.2 s25 rfl)),
      ob_p (Fi := [(2, .int .i64 r)]) (by kernel_rfl) rfl rfl ⟨by kernel_rfl, trivial⟩ rfl rfl,
      ob_run (Fi := [(15, .agg (#[.int .i64 x, .int .i64 y])), (16, .int .i64 r)]) (by kernel_rfl) rfl rfl ⟨by kernel_rfl, by kernel_rfl, trivial⟩ (fun a w st hk hxx w' => r_build st rfl rfl (bld36_0Agg_1i64 _ _ _ _)),
      ob_bslice (Fi := [(17, .agg (#[.int .i64 x, .int .i64 y, .int .i64 r]))]) (by kernel_rfl) rfl rfl ⟨by kernel_rfl, trivial⟩ rfl (bsl32_1_1 _ _ _),
      ob_store (by kernel_rfl),
      ob_store (by kernel_rfl), trivial⟩ ?_
  intro a1 w1 hk1 st1 he
  clear hk1 st a w; revert st1 he; revert a1; revert w1; intro w a st he
  replace st := st.pickTo (F' := [(0, .slice none 0 0), (1, .agg (#[.int .i64 x, .int .i64 y])), (2, .int .i64 r), (4, .pointer (some ⟨b1, 0, none⟩)), (6, .slice none 0 0), (14, .slice none 0 0)]) [0, 1, 2, 4, 6, 14] (by kernel_rfl)
  obtain ⟨b2, hvb2, hbb2, hnb2⟩ := he.slc 11 rfl rfl
  replace st := (st.know hvb2).add hbb2 hnb2
  clear hvb2 hbb2 hnb2
  clear he
  change wpList _ _ _ [_, _] _ _
  refine x_appendN (size := 3) (news := [.int .i64 x, .int .i64 y, .int .i64 r]) st rfl rfl rfl u32 z36 s36 bt36 rfl rfl (hnewC (C := #[.int .i64 x, .int .i64 y, .int .i64 r]) (st.at 0 rfl)) (by decide) (by decide) (by decide) rfl rfl (by decide) ?_
  clear st a; intro a w1 g2 cap cur hcap hcm hcs hcut hk st; clear hk w; revert st; revert w1; intro w st
  refine xseg 1 st rfl ?_
  clear st a; intro a st
  refine x_nil ?_
  show NP _ _ _ _
  refine NP.normal ?_
  refine x_wpret ?_
  exact x_retp st [.slice (some ⟨g2, 0, none⟩) 1 cap] rfl ⟨rfl, trivial⟩ rfl (⟨g2, cap, cur, rfl, st.at 0 rfl, (st.own _ (List.mem_of_getElem? (i := 0) rfl)).resolve_left (by simp), hcap, hcm, hcs, hcut⟩)

set_option maxRecDepth 20000 in
set_option maxHeartbeats 1000000 in
theorem AddS_ok {w0 : World} {b off cap0 : Nat} {l : List Sn} {cur0 : Array Value} (x y r : Int) (hb : Hid (w0.heap[b]? = some (.cells cur0 36 (0, 0)))) (hc : Hid (Holds cur0 off (flatS l))) (hlc : l.length ≤ cap0) (hn : l.length ≤ 1073741824)  :
    Fn Tryd.prog 8 [.slice (some ⟨b, off, none⟩) l.length cap0, .agg (#[.int .i64 x, .int .i64 y]), .int .i64 r] w0 [] (fun v w' => ∃ g cap cur, v = .slice (some ⟨g, 0, none⟩) (keepS l ⟨x, y, r⟩).length cap ∧ w'.heap[g]? = some (.cells cur 36 (0, 0)) ∧ w0.heap.size ≤ g ∧ (keepS l ⟨x, y, r⟩).length ≤ cap ∧ cap ≤ maxLen ∧ cur.size = cap * 3 ∧ Cut cur (flatS (keepS l ⟨x, y, r⟩))) := by
  obtain ⟨n, hnl⟩ : ∃ n, n = l.length := ⟨_, rfl⟩
  rw [← hnl] at hlc hn
  rw [← hnl]
  refine x_enter' (n := 20) Tryd.func8 rfl rfl (Nat.le_of_ble_eq_true rfl) fun a w st => ?_
  refine x_seq ?_
  refine x_region ?_
  refine x_box st rfl rfl rfl rfl (by decide) ?_
  clear st a; intro a w b1 st
  refine xseg 1 st rfl ?_
  clear st a; intro a st
  refine x_nil ?_
  refine x_seq ?_
  refine x_draw st [12] [.det (.slice (some ⟨b, off, none⟩) n cap0), .det (.slice (some ⟨b, off, none⟩) n cap0), .det (.int .i64 ((n : Nat) : Int)), .det (.int .i64 (((n : Nat) : Int) - 8)), .det (.int .i64 (((n : Nat) : Int) - 8 + 1)), .det (.int .i64 ((n - 7 : Nat) : Int)), .det (.slice (some ⟨b, off + (n - 7) * 3, none⟩) (n - (n - 7)) (cap0 - (n - 7))), .spec (.own 36 3 (n - (n - 7)) (flatS (l.drop (n - 7)))), .det (.agg (#[.int .i64 x, .int .i64 y])), .det (.int .i64 r), .det (.agg (#[.int .i64 x, .int .i64 y, .int .i64 r])), .spec (.slc 1 (.cells (#[.int .i64 x, .int .i64 y, .int .i64 r]) 36 (0, 0))), .det undef, .det undef] mixed (by kernel_rfl)
    ⟨ob_p (Fi := [(0, .slice (some ⟨b, off, none⟩) n cap0)]) (by kernel_rfl) rfl rfl ⟨by kernel_rfl, trivial⟩ rfl rfl,
      ob_p (Fi := [(0, .slice (some ⟨b, off, none⟩) n cap0)]) (by kernel_rfl) rfl rfl ⟨by kernel_rfl, trivial⟩ rfl rfl,
      ob_w (Fi := [(8, .slice (some ⟨b, off, none⟩) n cap0)]) (by kernel_rfl) rfl rfl ⟨by kernel_rfl, trivial⟩ (fun a w st hk hxx => r_len st rfl rfl u32),
      ob_p (Fi := [(9, .int .i64 ((n : Nat) : Int))]) (by kernel_rfl) rfl rfl ⟨by kernel_rfl, trivial⟩ rfl (wi64 (by omega) rfl),
      ob_p (Fi := [(10, .int .i64 (((n : Nat) : Int) - 8))]) (by kernel_rfl) rfl rfl ⟨by kernel_rfl, trivial⟩ rfl (wi64 (by omega) rfl),
      ob_w (Fi := [(11, .int .i64 (((n : Nat) : Int) - 8 + 1))]) (by kernel_rfl) rfl rfl ⟨by kernel_rfl, trivial⟩ (fun a w st hk hxx => r_max (z := ((n - 7 : Nat) : Int)) st rfl rfl rfl (by omega)),
      ob_run (Fi := [(7, .slice (some ⟨b, off, none⟩) n cap0), (12, .int .i64 ((n - 7 : Nat) : Int))]) (by kernel_rfl) rfl rfl ⟨by kernel_rfl, by kernel_rfl, trivial⟩ (fun a w st hk hxx w' => r_slice st rfl rfl rfl rfl rfl rfl ⟨rfl, rfl⟩ (run_sliceLo (l := n - 7) u32 s36 (by omega) (by omega) (by omega) _)),
      ob_callW (Fi := [(13, .slice (some ⟨b, off + (n - 7) * 3, none⟩) (n - (n - 7)) (cap0 - (n - 7)))]) (by kernel_rfl) rfl ent22 rfl ⟨by kernel_rfl, trivial⟩ rfl (fun a w st hk hxx => cloneS_ok (st.old hb.out (by simp)) (show Holds cur0 (off + (n - 7) * 3) (flatS (l.drop (n - 7))) from by rw [flatS_drop]; exact hc.out.drop) (flatS_one _) (by rw [flatS_len, List.length_drop, ← hnl]) (by omega)) own_spec,
      ob_w (Fi := [(4, .pointer (some ⟨b1, 0, none⟩))]) (by kernel_rfl) rfl rfl ⟨by kernel_rfl, trivial⟩ (fun a w st hk hxx => r_load st rfl rfl (run_loadW (st.at 0 rfl) r25.choose_spec.1 r25.choose_spec.2 s25 rfl)),
      ob_p (Fi := [(2, .int .i64 r)]) (by kernel_rfl) rfl rfl ⟨by kernel_rfl, trivial⟩ rfl rfl,
      ob_run (Fi := [(15, .agg (#[.int .i64 x, .int .i64 y])), (16, .int .i64 r)]) (by kernel_rfl) rfl rfl ⟨by kernel_rfl, by kernel_rfl, trivial⟩ (fun a w st hk hxx w' => r_build st rfl rfl (bld36_0Agg_1i64 _ _ _ _)),
      ob_bslice (Fi := [(17, .agg (#[.int .i64 x, .int .i64 y, .int .i64 r]))]) (by kernel_rfl) rfl rfl ⟨by kernel_rfl, trivial⟩ rfl (bsl32_1_1 _ _ _),
      ob_store (by kernel_rfl),
      ob_store (by kernel_rfl), trivial⟩ ?_
  intro a1 w1 hk1 st1 he
  clear hk1 st a w; revert st1 he; revert a1; revert w1; intro w a st he
  replace st := st.pickTo (F' := [(0, .slice (some ⟨b, off, none⟩) n cap0), (1, .agg (#[.int .i64 x, .int .i64 y])), (2, .int .i64 r), (4, .pointer (some ⟨b1, 0, none⟩)), (6, .slice none 0 0)]) [0, 1, 2, 4, 6] (by kernel_rfl)
  obtain ⟨g, cap1, cur1, hvg, hbg, hng, hg1, hg2, hg3, hg4⟩ := he.own 7 rfl rfl
  obtain ⟨b2, hvb2, hbb2, hnb2⟩ := he.slc 11 rfl rfl
  replace st := (st.know hvg).add hbg hng
  replace st := (st.know hvb2).add hbb2 ⟨List.not_mem_cons_of_ne_of_not_mem (he.ne2 7 11 (by decide) rfl rfl rfl rfl hvg hvb2 rfl rfl) ( hnb2.1), hnb2.2⟩
  clear hvg hbg hng hvb2 hbb2 hnb2
  clear he
  change wpList _ _ _ [_, _] _ _
  refine x_append (size := 3) (xs := flatS (l.drop (n - 7))) (news := [.int .i64 x, .int .i64 y, .int .i64 r]) st 1 rfl rfl rfl rfl hg1 hg3 hg4 (by rw [flatS_len, List.length_drop, ← hnl]) u32 z36 s36 bt36 rfl rfl (hnewC (C := #[.int .i64 x, .int .i64 y, .int .i64 r]) (st.at 0 rfl)) (by intro u hu; simp at hu; rcases hu with rfl | rfl | rfl <;> rfl) (by omega) (by omega) hg2 rfl rfl (by decide) ?_
  clear st a; intro a w1 g2 cap cur hcap hcm hcs hcut hk st; clear hk w; revert st; revert w1; intro w st
  replace st := st.cast rfl (show _ = ([(g2, .cells cur 36 (0, 0)), (b2, .cells (#[.int .i64 x, .int .i64 y, .int .i64 r]) 36 (0, 0)), (b1, .cells (#[.int .i64 x, .int .i64 y]) 25 (0, 0))] : Hp) from rfl)
  refine xseg 1 st rfl ?_
  clear st a; intro a st
  refine x_nil ?_
  show NP _ _ _ _
  refine NP.normal ?_
  refine x_wpret ?_
  exact x_retp st [.slice (some ⟨g2, 0, none⟩) (n - (n - 7) + 1) cap] rfl ⟨rfl, trivial⟩ rfl (⟨g2, cap, cur, by rw [keepS_len, ← hnl]; rfl, st.at 0 rfl, (st.own _ (List.mem_of_getElem? (i := 0) rfl)).resolve_left (by simp), by rw [keepS_len, ← hnl]; exact hcap, hcm, hcs, by unfold keepS; rw [flatS_app, ← hnl]; exact hcut⟩)

end Go.Proofs.YtnkbhmonceiocaaDoor
