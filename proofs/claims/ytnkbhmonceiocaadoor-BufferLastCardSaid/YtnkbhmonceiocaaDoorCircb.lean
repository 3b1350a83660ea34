/-
  The package circle of the program: Off, Pick.
-/
import Derived.Test.YtnkbhmonceiocaaDoorCirc
import Derived.Test.YtnkbhmonceiocaaDoorErrs
namespace Go.Proofs.YtnkbhmonceiocaaDoor
open Go Go.RowKit
namespace FCircb
theorem bsl31_1_1 (x0 : Int) (w : World) : (Instr.buildSlice 31 1 #[(0, .int .i64 x0)]).run Tryd.prog w = .ok (.slice (some ⟨w.heap.size, 0, none⟩) 1 1) (w.alloc (.cells #[.int .i64 x0] 2 (0, 0))) := by kernel_rfl
theorem bz25 (w : World) : (Instr.build 25 #[]).run Tryd.prog w = .ok (.agg (#[.int .i64 0, .int .i64 0])) w := by kernel_rfl
theorem ent12 (args : Array Value) (w : World) : (callFunc 12 args).run Tryd.prog w = .ok (.enter 12 args) w := enters_at Tryd.func12 (by kernel_rfl) rfl args w
theorem ent13 (args : Array Value) (w : World) : (callFunc 13 args).run Tryd.prog w = .ok (.enter 13 args) w := enters_at Tryd.func13 (by kernel_rfl) rfl args w
theorem ent14 (args : Array Value) (w : World) : (callFunc 14 args).run Tryd.prog w = .ok (.enter 14 args) w := enters_at Tryd.func14 (by kernel_rfl) rfl args w
theorem ent23 (args : Array Value) (w : World) : (callFunc 23 args).run Tryd.prog w = .ok (.enter 23 args) w := enters_at Tryd.func23 (by kernel_rfl) rfl args w
theorem ent36 (args : Array Value) (w : World) : (callFunc 36 args).run Tryd.prog w = .ok (.enter 36 args) w := enters_at Tryd.func36 (by kernel_rfl) rfl args w
theorem ent37 (args : Array Value) (w : World) : (callFunc 37 args).run Tryd.prog w = .ok (.enter 37 args) w := enters_at Tryd.func37 (by kernel_rfl) rfl args w
theorem o25_0 : fieldOff Tryd.prog 25 0 = some 0 := by kernel_rfl
theorem o25_1 : fieldOff Tryd.prog 25 1 = some 1 := by kernel_rfl
theorem r25 : ∃ d, Tryd.prog.underlying 25 = some d ∧ d.isRow = true := ⟨_, Tryd.underlying25, by kernel_rfl⟩
theorem s25 : (Tryd.prog.info? 25).map (·.size) = some 2 := by kernel_rfl
theorem u2 : Tryd.prog.underlying 2 = some (.int .i64) := by kernel_rfl
theorem ui27 : ∃ ms, Tryd.prog.underlying 27 = some (.interface ms) := ⟨_, Tryd.underlying27⟩
theorem z25 : (Tryd.prog.info? 25).bind (·.zero) = some (.agg (#[.int .i64 0, .int .i64 0])) := by kernel_rfl
end FCircb
open FCircb
set_option maxRecDepth 20000 in
set_option maxHeartbeats 1000000 in
theorem Off_ok  (px py qx qy r : Int) (w0 : World) :
    Fn Tryd.prog 23 [.agg (#[.int .i64 px, .int .i64 py]), .agg (#[.int .i64 qx, .int .i64 qy]), .int .i64 r] w0 [] (fun v w' => ∃ u, ErrV w0 w' ⟨#[99, 105, 114, 99, 108, 101]⟩ (offE px py qx qy r) u ∧ v = .tuple #[.int .i64 (if offE px py qx qy r = 0 then offV px py qx qy r else 0), u]) := by
  refine x_enter' (n := 47) Tryd.func23 rfl rfl (Nat.le_of_ble_eq_true rfl) fun a w st => ?_
  refine x_seq ?_
  refine x_region ?_
  refine x_box st rfl rfl rfl rfl (by decide) ?_
  clear st a; intro a w b1 st
  refine x_box st rfl rfl rfl rfl (by decide) ?_
  clear st a; intro a w b2 st
  refine xseg 2 st rfl ?_
  clear st a; intro a st
  refine x_nil ?_
  refine x_seq ?_
  refine x_seq ?_
  refine x_region ?_
  refine x_run (v := .agg (#[.int .i64 px, .int .i64 py])) st (r_load st rfl rfl (run_loadW (st.at 1 rfl) r25.choose_spec.1 r25.choose_spec.2 s25 rfl)) rfl rfl (by decide) ?_
  clear st a; intro a st
  refine x_call st rfl rfl ent12 rfl rfl (by decide) ((Far_ok px py _)) ?_
  intro a1 w1 v1 hk1 hv hn st1; subst hv
  clear hn hk1 st a w; revert st1; revert a1; revert w1; intro w a st
  refine xseg 1 st rfl ?_
  clear st a; intro a st
  rcases Bool.eq_false_or_eq_true (farB px py) with hg1_2 | hg1_2
  · rw [hg1_2] at st
    refine x_skip st (b := false) (c := true) rfl rfl rfl (by decide) rfl (by decide) ?_
    clear st a; intro a st
    refine x_skip st (b := false) (c := true) rfl rfl rfl (by decide) rfl (by decide) ?_
    clear st a; intro a st
    refine xseg 2 st rfl ?_
    clear st a; intro a st
    refine x_skip st (b := false) (c := true) rfl rfl rfl (by decide) rfl (by decide) ?_
    clear st a; intro a st
    refine x_skip st (b := false) (c := true) rfl rfl rfl (by decide) rfl (by decide) ?_
    clear st a; intro a st
    refine x_skip st (b := false) (c := true) rfl rfl rfl (by decide) rfl (by decide) ?_
    clear st a; intro a st
    refine x_skip st (b := false) (c := true) rfl rfl rfl (by decide) rfl (by decide) ?_
    clear st a; intro a st
    refine xseg 1 st rfl ?_
    clear st a; intro a st
    refine x_nil ?_
    refine x_condT st rfl ?_
    refine x_seq ?_
    have he : offE px py qx qy r = 27 := by unfold offE; rw [if_pos]; (try rw [hg1_2]); (try rw [hg1_6]); first | (simp; done) | (simpa using h1)
    refine x_region ?_
    refine x_call st rfl rfl ent14 rfl rfl (by decide) ((bad_circle 27 _)) ?_
    intro a1 w1 v1 hk1 hv hn st1; obtain ⟨b3, rfl, hbx, hlx⟩ := hv
    replace st1 := st1.add hbx (hn b3 hlx)
    clear hn hk1 hbx hlx st a w; revert st1; revert a1; revert w1; intro w a st
    refine xseg 2 st rfl ?_
    clear st a; intro a st
    refine x_nil ?_
    refine x_wpret ?_
    refine x_thenRet ?_
    exact x_retp st [.int .i64 0, .iface 80 (.pointer (some ⟨b3, 0, none⟩))] rfl ⟨rfl, rfl, trivial⟩ rfl (⟨_, .inr ⟨by rw [he]; decide, _, rfl, by rw [he]; exact st.at 0 rfl, (st.own _ (List.mem_of_getElem? (i := 0) rfl)).resolve_left (by simp)⟩, by rw [he]; rfl⟩)
  · rw [hg1_2] at st
    refine x_unguard st (b := false) rfl rfl rfl ?_
    refine x_run (v := .agg (#[.int .i64 qx, .int .i64 qy])) st (r_load st rfl rfl (run_loadW (st.at 0 rfl) r25.choose_spec.1 r25.choose_spec.2 s25 rfl)) rfl rfl (by decide) ?_
    clear st a; intro a st
    refine x_unguard st (b := false) rfl rfl rfl ?_
    refine x_call st rfl rfl ent12 rfl rfl (by decide) ((Far_ok qx qy _)) ?_
    intro a1 w1 v1 hk1 hv hn st1; subst hv
    clear hn hk1 st a w; revert st1; revert a1; revert w1; intro w a st
    refine xseg 2 st rfl ?_
    clear st a; intro a st
    rcases Bool.eq_false_or_eq_true (farB qx qy) with hg1_6 | hg1_6
    · rw [hg1_6] at st
      refine x_skip st (b := false) (c := true) rfl rfl rfl (by decide) rfl (by decide) ?_
      clear st a; intro a st
      refine x_skip st (b := false) (c := true) rfl rfl rfl (by decide) rfl (by decide) ?_
      clear st a; intro a st
      refine x_skip st (b := false) (c := true) rfl rfl rfl (by decide) rfl (by decide) ?_
      clear st a; intro a st
      refine x_skip st (b := false) (c := true) rfl rfl rfl (by decide) rfl (by decide) ?_
      clear st a; intro a st
      refine xseg 1 st rfl ?_
      clear st a; intro a st
      refine x_nil ?_
      refine x_condT st rfl ?_
      refine x_seq ?_
      have he : offE px py qx qy r = 27 := by unfold offE; rw [if_pos]; (try rw [hg1_2]); (try rw [hg1_6]); first | (simp; done) | (simpa using h1)
      refine x_region ?_
      refine x_call st rfl rfl ent14 rfl rfl (by decide) ((bad_circle 27 _)) ?_
      intro a1 w1 v1 hk1 hv hn st1; obtain ⟨b4, rfl, hbx, hlx⟩ := hv
      replace st1 := st1.add hbx (hn b4 hlx)
      clear hn hk1 hbx hlx st a w; revert st1; revert a1; revert w1; intro w a st
      refine xseg 2 st rfl ?_
      clear st a; intro a st
      refine x_nil ?_
      refine x_wpret ?_
      refine x_thenRet ?_
      exact x_retp st [.int .i64 0, .iface 80 (.pointer (some ⟨b4, 0, none⟩))] rfl ⟨rfl, rfl, trivial⟩ rfl (⟨_, .inr ⟨by rw [he]; decide, _, rfl, by rw [he]; exact st.at 0 rfl, (st.own _ (List.mem_of_getElem? (i := 0) rfl)).resolve_left (by simp)⟩, by rw [he]; rfl⟩)
    · rw [hg1_6] at st
      refine x_unguard st (b := false) rfl rfl rfl ?_
      refine xseg 1 st rfl ?_
      clear st a; intro a st
      refine x_unguard st (b := false) rfl rfl rfl ?_
      refine x_bslice st rfl rfl (bsl31_1_1 _) rfl rfl (by decide) ?_
      clear st a; intro a w b5 st
      refine x_unguard st (b := false) rfl rfl rfl ?_
      refine x_call st rfl rfl ent13 rfl rfl (by decide) ((ranges1_ok (st.at 0 rfl))) ?_
      intro a1 w1 v1 hk1 hv hn st1; subst hv
      clear hn hk1 st a w; revert st1; revert a1; revert w1; intro w a st
      refine x_unguard st (b := false) rfl rfl rfl ?_
      refine xseg 2 st rfl ?_
      clear st a; intro a st
      refine x_nil ?_
      refine x_cond st rfl (fun h1 => ?_) (fun h1 => ?_)
      · refine x_seq ?_
        have he : offE px py qx qy r = 27 := by unfold offE; rw [if_pos]; (try rw [hg1_2]); (try rw [hg1_6]); first | (simp; done) | (simpa using h1)
        refine x_region ?_
        refine x_call st rfl rfl ent14 rfl rfl (by decide) ((bad_circle 27 _)) ?_
        intro a1 w1 v1 hk1 hv hn st1; obtain ⟨b6, rfl, hbx, hlx⟩ := hv
        replace st1 := st1.add hbx (hn b6 hlx)
        clear hn hk1 hbx hlx st a w; revert st1; revert a1; revert w1; intro w a st
        refine xseg 2 st rfl ?_
        clear st a; intro a st
        refine x_nil ?_
        refine x_wpret ?_
        refine x_thenRet ?_
        exact x_retp st [.int .i64 0, .iface 80 (.pointer (some ⟨b6, 0, none⟩))] rfl ⟨rfl, rfl, trivial⟩ rfl (⟨_, .inr ⟨by rw [he]; decide, _, rfl, by rw [he]; exact st.at 0 rfl, (st.own _ (List.mem_of_getElem? (i := 0) rfl)).resolve_left (by simp)⟩, by rw [he]; rfl⟩)
      · refine wp_skip ?_
        refine x_seq ?_
        have hr : rngB r = true := by simpa using h1
        have he : offE px py qx qy r = 0 := by unfold offE; rw [hg1_2, hg1_6, hr]; rfl
        have hfp := farB_no hg1_2
        have hfq := farB_no hg1_6
        have hr2 := rngB_yes hr
        have hi := hyp2_bd hg1_2 hg1_6
        refine x_region ?_
        refine x_run (v := .pointer (some ⟨b1, 0, none⟩)) st (r_field st rfl rfl o25_0) rfl rfl (by decide) ?_
        clear st a; intro a st
        refine x_run (v := .int .i64 px) st (r_load st rfl rfl (run_load1 (st.at 2 rfl) u2 rfl rfl)) rfl rfl (by decide) ?_
        clear st a; intro a st
        refine x_run (v := .pointer (some ⟨b2, 0, none⟩)) st (r_field st rfl rfl o25_0) rfl rfl (by decide) ?_
        clear st a; intro a st
        refine x_run (v := .int .i64 qx) st (r_load st rfl rfl (run_load1 (st.at 1 rfl) u2 rfl rfl)) rfl rfl (by decide) ?_
        clear st a; intro a st
        refine xp st (.int .i64 (px - qx)) rfl (wi64 (by omega) rfl) rfl rfl (by decide) ?_
        clear st a; intro a st
        refine x_run (v := .pointer (some ⟨b1, 1, none⟩)) st (r_field st rfl rfl o25_1) rfl rfl (by decide) ?_
        clear st a; intro a st
        refine x_run (v := .int .i64 py) st (r_load st rfl rfl (run_load1 (st.at 2 rfl) u2 rfl rfl)) rfl rfl (by decide) ?_
        clear st a; intro a st
        refine x_run (v := .pointer (some ⟨b2, 1, none⟩)) st (r_field st rfl rfl o25_1) rfl rfl (by decide) ?_
        clear st a; intro a st
        refine x_run (v := .int .i64 qy) st (r_load st rfl rfl (run_load1 (st.at 1 rfl) u2 rfl rfl)) rfl rfl (by decide) ?_
        clear st a; intro a st
        refine xp st (.int .i64 (py - qy)) rfl (wi64 (by omega) rfl) rfl rfl (by decide) ?_
        clear st a; intro a st
        refine x_call st rfl rfl ent36 rfl rfl (by decide) ((Hypot_ok (px - qx) (py - qy) (by omega) (by omega) _)) ?_
        intro a1 w1 v1 hk1 hv hn st1; subst hv
        clear hn hk1 st a w; revert st1; revert a1; revert w1; intro w a st
        refine xseg 5 st rfl ?_
        clear st a; intro a st
        refine x_nil ?_
        refine x_seq ?_
        refine x_region ?_
        refine xseg 2 st rfl ?_
        clear st a; intro a st
        refine xp st (.int .i64 (((isq (hyp2 (px - qx) (py - qy)) : Nat) : Int) - r)) rfl (wi64 (by omega) rfl) rfl rfl (by decide) ?_
        clear st a; intro a st
        refine x_call st rfl rfl ent37 rfl rfl (by decide) ((Amount_ok (((isq (hyp2 (px - qx) (py - qy)) : Nat) : Int) - r) (by omega) _)) ?_
        intro a1 w1 v1 hk1 hv hn st1; subst hv
        clear hn hk1 st a w; revert st1; revert a1; revert w1; intro w a st
        refine xseg 5 st rfl ?_
        clear st a; intro a st
        refine x_nil ?_
        refine x_seq ?_
        refine x_region ?_
        refine xseg 3 st rfl ?_
        clear st a; intro a st
        refine x_nil ?_
        refine x_wpret ?_
        exact x_retp st [.int .i64 (offV px py qx qy r), .nilIface] rfl ⟨rfl, rfl, trivial⟩ rfl (⟨_, .inl ⟨he, rfl⟩, by rw [he]; rfl⟩)

theorem offE_27 {px py qx qy r : Int} (h : offE px py qx qy r ≠ 0) : offE px py qx qy r = 27 := by
  unfold offE at *
  split at h
  · rename_i h1; rw [if_pos h1]
  · exact absurd rfl h

set_option maxRecDepth 20000 in
set_option maxHeartbeats 1000000 in
theorem Pick_ok  (ax ay bx by' px py r near : Int) (w0 : World) :
    Fn Tryd.prog 10 [.agg (#[.int .i64 ax, .int .i64 ay]), .agg (#[.int .i64 bx, .int .i64 by']), .agg (#[.int .i64 px, .int .i64 py]), .int .i64 r, .int .i64 near] w0 [] (fun v w' => ∃ u, ErrV w0 w' ⟨#[99, 105, 114, 99, 108, 101]⟩ (pickE ax ay bx by' px py r near) u ∧ v = .tuple #[.agg #[.int .i64 (if pickE ax ay bx by' px py r near = 0 then (bif pickA ax ay bx by' px py r near then ax else bx) else 0), .int .i64 (if pickE ax ay bx by' px py r near = 0 then (bif pickA ax ay bx by' px py r near then ay else by') else 0)], u]) := by
  refine x_enter' (n := 66) Tryd.func10 rfl rfl (Nat.le_of_ble_eq_true rfl) fun a w st => ?_
  refine x_seq ?_
  refine x_region ?_
  refine x_box st rfl rfl rfl rfl (by decide) ?_
  clear st a; intro a w b1 st
  refine x_box st rfl rfl rfl rfl (by decide) ?_
  clear st a; intro a w b2 st
  refine x_box st rfl rfl rfl rfl (by decide) ?_
  clear st a; intro a w b3 st
  refine x_alloc st rfl z25 rfl rfl (by decide) ?_
  clear st a; intro a w b4 st
  refine xseg 1 st rfl ?_
  clear st a; intro a st
  refine x_nil ?_
  refine x_seq ?_
  refine x_region ?_
  refine x_run (v := .agg (#[.int .i64 ax, .int .i64 ay])) st (r_load st rfl rfl (run_loadW (st.at 3 rfl) r25.choose_spec.1 r25.choose_spec.2 s25 rfl)) rfl rfl (by decide) ?_
  clear st a; intro a st
  refine x_run (v := .agg (#[.int .i64 px, .int .i64 py])) st (r_load st rfl rfl (run_loadW (st.at 1 rfl) r25.choose_spec.1 r25.choose_spec.2 s25 rfl)) rfl rfl (by decide) ?_
  clear st a; intro a st
  refine xseg 1 st rfl ?_
  clear st a; intro a st
  refine x_call st rfl rfl ent23 rfl rfl (by decide) (Off_ok ax ay px py r _) ?_
  intro a1 w1 v1 hk1 hv hn st1; obtain ⟨u, hu, rfl⟩ := hv
  rcases hu with ⟨hez, rfl⟩ | ⟨hez, be, rfl, hbx, hlx⟩
  · replace hez : Hid (offE ax ay px py r = 0) := hez; clear hn hk1 st a w; revert st1; revert a1; revert w1; intro w a st
    have hea := hez; clear hez
    refine xseg 1 st rfl ?_
    clear st a; intro a st
    refine xp st (.int .i64 (offV ax ay px py r)) rfl (ieq (if_pos hea.out)) rfl rfl (by decide) ?_
    clear st a; intro a st
    refine xseg 3 st rfl ?_
    clear st a; intro a st
    refine x_nil ?_
    refine x_seq ?_
    refine x_seq ?_
    refine x_region ?_
    refine xseg 1 st rfl ?_
    clear st a; intro a st
    refine x_run (v := .bool false) st (r_eqNil (neq := true) (b := true) st rfl rfl (.inl ⟨rfl, rfl⟩) ui27) rfl rfl (by decide) ?_
    clear st a; intro a st
    refine x_nil ?_
    refine x_condF st rfl ?_
    refine wp_skip ?_
    refine x_seq ?_
    refine x_region ?_
    refine x_run (v := .agg (#[.int .i64 bx, .int .i64 by'])) st (r_load st rfl rfl (run_loadW (st.at 2 rfl) r25.choose_spec.1 r25.choose_spec.2 s25 rfl)) rfl rfl (by decide) ?_
    clear st a; intro a st
    refine x_run (v := .agg (#[.int .i64 px, .int .i64 py])) st (r_load st rfl rfl (run_loadW (st.at 1 rfl) r25.choose_spec.1 r25.choose_spec.2 s25 rfl)) rfl rfl (by decide) ?_
    clear st a; intro a st
    refine xseg 1 st rfl ?_
    clear st a; intro a st
    refine x_call st rfl rfl ent23 rfl rfl (by decide) (Off_ok bx by' px py r _) ?_
    intro a1 w1 v1 hk1 hv hn st1; obtain ⟨u, hu, rfl⟩ := hv
    rcases hu with ⟨hez, rfl⟩ | ⟨hez, be, rfl, hbx, hlx⟩
    · replace hez : Hid (offE bx by' px py r = 0) := hez; clear hn hk1 st a w; revert st1; revert a1; revert w1; intro w a st
      have heb := hez; clear hez
      refine xseg 1 st rfl ?_
      clear st a; intro a st
      refine xp st (.int .i64 (offV bx by' px py r)) rfl (ieq (if_pos heb.out)) rfl rfl (by decide) ?_
      clear st a; intro a st
      refine xseg 3 st rfl ?_
      clear st a; intro a st
      refine x_nil ?_
      refine x_seq ?_
      refine x_seq ?_
      refine x_region ?_
      refine xseg 1 st rfl ?_
      clear st a; intro a st
      refine x_run (v := .bool false) st (r_eqNil (neq := true) (b := true) st rfl rfl (.inl ⟨rfl, rfl⟩) ui27) rfl rfl (by decide) ?_
      clear st a; intro a st
      refine x_nil ?_
      refine x_condF st rfl ?_
      refine wp_skip ?_
      refine x_seq ?_
      refine wp_block ?_
      refine x_seq ?_
      refine x_region ?_
      refine xseg 1 st rfl ?_
      clear st a; intro a st
      refine x_bslice st rfl rfl (bsl31_1_1 _) rfl rfl (by decide) ?_
      clear st a; intro a w b5 st
      refine x_call st rfl rfl ent13 rfl rfl (by decide) ((ranges1_ok (st.at 0 rfl))) ?_
      intro a1 w1 v1 hk1 hv hn st1; subst hv
      clear hn hk1 st a w; revert st1; revert a1; revert w1; intro w a st
      refine xseg 2 st rfl ?_
      clear st a; intro a st
      refine x_nil ?_
      refine x_cond st rfl (fun h7 => ?_) (fun h7 => ?_)
      · refine x_seq ?_
        have he : pickE ax ay bx by' px py r near = 27 := by unfold pickE; rw [if_neg (by rw [hea.out]; decide), if_neg (by rw [heb.out]; decide), if_pos (by simpa using h7)]
        refine x_region ?_
        refine x_run (v := .agg (#[.int .i64 0, .int .i64 0])) st (r_build0 bz25 rfl) rfl rfl (by decide) ?_
        clear st a; intro a st
        refine x_call st rfl rfl ent14 rfl rfl (by decide) ((bad_circle 27 _)) ?_
        intro a1 w1 v1 hk1 hv hn st1; obtain ⟨b6, rfl, hbx, hlx⟩ := hv
        replace st1 := st1.add hbx (hn b6 hlx)
        clear hn hk1 hbx hlx st a w; revert st1; revert a1; revert w1; intro w a st
        refine x_store st 2 rfl rfl rfl rfl (run_storeW (st.at 2 rfl) s25 rfl (by first | rfl | simp [Value.oneCell'])) rfl rfl ?_
        clear st a w; intro a w st
        replace st := st.cast rfl (show _ = ([(b6, .cells (#[.string (⟨#[99, 105, 114, 99, 108, 101]⟩), .iface 44 (.int .i64 27)]) 82 (0, 0)), (b5, .cells (#[.int .i64 near]) 2 (0, 0)), (b4, .cells (#[.int .i64 0, .int .i64 0]) 25 (0, 0)), (b3, .cells (#[.int .i64 px, .int .i64 py]) 25 (0, 0)), (b2, .cells (#[.int .i64 bx, .int .i64 by']) 25 (0, 0)), (b1, .cells (#[.int .i64 ax, .int .i64 ay]) 25 (0, 0))] : Hp) from rfl)
        refine xseg 1 st rfl ?_
        clear st a; intro a st
        refine x_nil ?_
        refine x_wpret ?_
        refine x_blockRet ?_
        refine x_thenRet ?_
        exact x_retp st [.agg (#[.int .i64 0, .int .i64 0]), .iface 80 (.pointer (some ⟨b6, 0, none⟩))] rfl ⟨⟨_, rfl, run_loadW (st.at 2 rfl) r25.choose_spec.1 r25.choose_spec.2 s25 rfl⟩, rfl, trivial⟩ rfl (⟨_, .inr ⟨by rw [he]; decide, _, rfl, by rw [he]; exact st.at 0 rfl, (st.own _ (List.mem_of_getElem? (i := 0) rfl)).resolve_left (by simp)⟩, by rw [he]; rfl⟩)
      · refine x_seq ?_
        refine x_region ?_
        refine xseg 4 st rfl ?_
        clear st a; intro a st
        rcases Bool.eq_false_or_eq_true (decide (offV ax ay px py r ≤ near)) with hg9_3 | hg9_3
        · rw [hg9_3] at st
          refine x_unguard st (b := true) rfl rfl rfl ?_
          refine xseg 1 st rfl ?_
          clear st a; intro a st
          refine x_unguard st (b := true) rfl rfl rfl ?_
          refine xseg 1 st rfl ?_
          clear st a; intro a st
          refine x_unguard st (b := true) rfl rfl rfl ?_
          refine xseg 3 st rfl ?_
          clear st a; intro a st
          refine x_nil ?_
          refine x_condD st rfl (fun h9 => ?_) (fun h9 => ?_)
          · refine x_seq ?_
            have hA : pickA ax ay bx by' px py r near = true := by unfold pickA; (try simp only [decide_eq_true_eq, decide_eq_false_iff_not] at hg9_3); (try simp only [decide_eq_true_eq, decide_eq_false_iff_not] at hg11_3); exact decide_eq_true (by omega)
            have he : pickE ax ay bx by' px py r near = 0 := by unfold pickE; rw [if_neg (by rw [hea.out]; decide), if_neg (by rw [heb.out]; decide), if_neg (by simp [show rngB near = true from by simpa using h7])]; (try simp only [decide_eq_true_eq, decide_eq_false_iff_not] at hg9_3); (try simp only [decide_eq_true_eq, decide_eq_false_iff_not] at hg11_3); rw [if_pos (by omega)]
            refine x_region ?_
            refine x_run (v := .agg (#[.int .i64 ax, .int .i64 ay])) st (r_load st rfl rfl (run_loadW (st.at 4 rfl) r25.choose_spec.1 r25.choose_spec.2 s25 rfl)) rfl rfl (by decide) ?_
            clear st a; intro a st
            refine x_store st 1 rfl rfl rfl rfl (run_storeW (st.at 1 rfl) s25 rfl (by first | rfl | simp [Value.oneCell'])) rfl rfl ?_
            clear st a w; intro a w st
            replace st := st.cast rfl (show _ = ([(b5, .cells (#[.int .i64 near]) 2 (0, 0)), (b4, .cells (#[.int .i64 ax, .int .i64 ay]) 25 (0, 0)), (b3, .cells (#[.int .i64 px, .int .i64 py]) 25 (0, 0)), (b2, .cells (#[.int .i64 bx, .int .i64 by']) 25 (0, 0)), (b1, .cells (#[.int .i64 ax, .int .i64 ay]) 25 (0, 0))] : Hp) from rfl)
            refine xseg 1 st rfl ?_
            clear st a; intro a st
            refine x_nil ?_
            refine x_wpret ?_
            refine x_blockRet ?_
            refine x_thenRet ?_
            exact x_retp st [.agg (#[.int .i64 ax, .int .i64 ay]), .nilIface] rfl ⟨⟨_, rfl, run_loadW (st.at 1 rfl) r25.choose_spec.1 r25.choose_spec.2 s25 rfl⟩, rfl, trivial⟩ rfl (⟨_, .inl ⟨he, rfl⟩, by rw [he, hA]; rfl⟩)
          · refine x_seq ?_
            refine x_region ?_
            refine xseg 4 st rfl ?_
            clear st a; intro a st
            rcases Bool.eq_false_or_eq_true (decide (offV bx by' px py r ≤ near)) with hg11_3 | hg11_3
            · rw [hg11_3] at st
              refine x_unguard st (b := true) rfl rfl rfl ?_
              refine xseg 1 st rfl ?_
              clear st a; intro a st
              refine x_unguard st (b := true) rfl rfl rfl ?_
              refine xseg 1 st rfl ?_
              clear st a; intro a st
              refine x_unguard st (b := true) rfl rfl rfl ?_
              refine xseg 3 st rfl ?_
              clear st a; intro a st
              refine x_nil ?_
              refine x_condD st rfl (fun h11 => ?_) (fun h11 => ?_)
              · refine x_seq ?_
                have hA : pickA ax ay bx by' px py r near = false := by unfold pickA; (try simp only [decide_eq_true_eq, decide_eq_false_iff_not] at hg9_3); (try simp only [decide_eq_true_eq, decide_eq_false_iff_not] at hg11_3); exact decide_eq_false (by omega)
                have he : pickE ax ay bx by' px py r near = 0 := by unfold pickE; rw [if_neg (by rw [hea.out]; decide), if_neg (by rw [heb.out]; decide), if_neg (by simp [show rngB near = true from by simpa using h7])]; (try simp only [decide_eq_true_eq, decide_eq_false_iff_not] at hg9_3); (try simp only [decide_eq_true_eq, decide_eq_false_iff_not] at hg11_3); rw [if_neg (by omega), if_pos (by omega)]
                refine x_region ?_
                refine x_run (v := .agg (#[.int .i64 bx, .int .i64 by'])) st (r_load st rfl rfl (run_loadW (st.at 3 rfl) r25.choose_spec.1 r25.choose_spec.2 s25 rfl)) rfl rfl (by decide) ?_
                clear st a; intro a st
                refine x_store st 1 rfl rfl rfl rfl (run_storeW (st.at 1 rfl) s25 rfl (by first | rfl | simp [Value.oneCell'])) rfl rfl ?_
                clear st a w; intro a w st
                replace st := st.cast rfl (show _ = ([(b5, .cells (#[.int .i64 near]) 2 (0, 0)), (b4, .cells (#[.int .i64 bx, .int .i64 by']) 25 (0, 0)), (b3, .cells (#[.int .i64 px, .int .i64 py]) 25 (0, 0)), (b2, .cells (#[.int .i64 bx, .int .i64 by']) 25 (0, 0)), (b1, .cells (#[.int .i64 ax, .int .i64 ay]) 25 (0, 0))] : Hp) from rfl)
                refine xseg 1 st rfl ?_
                clear st a; intro a st
                refine x_nil ?_
                refine x_wpret ?_
                refine x_blockRet ?_
                refine x_thenRet ?_
                exact x_retp st [.agg (#[.int .i64 bx, .int .i64 by']), .nilIface] rfl ⟨⟨_, rfl, run_loadW (st.at 1 rfl) r25.choose_spec.1 r25.choose_spec.2 s25 rfl⟩, rfl, trivial⟩ rfl (⟨_, .inl ⟨he, rfl⟩, by rw [he, hA]; rfl⟩)
              · refine wp_skip ?_
                refine x_seq ?_
                have he : pickE ax ay bx by' px py r near = 34 := by unfold pickE; rw [if_neg (by rw [hea.out]; decide), if_neg (by rw [heb.out]; decide), if_neg (by simp [show rngB near = true from by simpa using h7])]; (try simp only [decide_eq_true_eq, decide_eq_false_iff_not] at hg9_3); (try simp only [decide_eq_true_eq, decide_eq_false_iff_not] at hg11_3); rw [if_neg (by omega), if_neg (by omega)]
                refine x_region ?_
                refine x_run (v := .agg (#[.int .i64 0, .int .i64 0])) st (r_build0 bz25 rfl) rfl rfl (by decide) ?_
                clear st a; intro a st
                refine x_call st rfl rfl ent14 rfl rfl (by decide) ((bad_circle 34 _)) ?_
                intro a1 w1 v1 hk1 hv hn st1; obtain ⟨b7, rfl, hbx, hlx⟩ := hv
                replace st1 := st1.add hbx (hn b7 hlx)
                clear hn hk1 hbx hlx st a w; revert st1; revert a1; revert w1; intro w a st
                refine x_store st 2 rfl rfl rfl rfl (run_storeW (st.at 2 rfl) s25 rfl (by first | rfl | simp [Value.oneCell'])) rfl rfl ?_
                clear st a w; intro a w st
                replace st := st.cast rfl (show _ = ([(b7, .cells (#[.string (⟨#[99, 105, 114, 99, 108, 101]⟩), .iface 44 (.int .i64 34)]) 82 (0, 0)), (b5, .cells (#[.int .i64 near]) 2 (0, 0)), (b4, .cells (#[.int .i64 0, .int .i64 0]) 25 (0, 0)), (b3, .cells (#[.int .i64 px, .int .i64 py]) 25 (0, 0)), (b2, .cells (#[.int .i64 bx, .int .i64 by']) 25 (0, 0)), (b1, .cells (#[.int .i64 ax, .int .i64 ay]) 25 (0, 0))] : Hp) from rfl)
                refine xseg 1 st rfl ?_
                clear st a; intro a st
                refine x_nil ?_
                refine x_wpret ?_
                exact x_retp st [.agg (#[.int .i64 0, .int .i64 0]), .iface 80 (.pointer (some ⟨b7, 0, none⟩))] rfl ⟨⟨_, rfl, run_loadW (st.at 2 rfl) r25.choose_spec.1 r25.choose_spec.2 s25 rfl⟩, rfl, trivial⟩ rfl (⟨_, .inr ⟨by rw [he]; decide, _, rfl, by rw [he]; exact st.at 0 rfl, (st.own _ (List.mem_of_getElem? (i := 0) rfl)).resolve_left (by simp)⟩, by rw [he]; rfl⟩)
            · rw [hg11_3] at st
              refine x_skip st (b := true) (c := false) rfl rfl rfl (by decide) rfl (by decide) ?_
              clear st a; intro a st
              refine x_skip st (b := true) (c := false) rfl rfl rfl (by decide) rfl (by decide) ?_
              clear st a; intro a st
              refine x_skip st (b := true) (c := false) rfl rfl rfl (by decide) rfl (by decide) ?_
              clear st a; intro a st
              refine xseg 2 st rfl ?_
              clear st a; intro a st
              refine x_nil ?_
              refine x_condF st rfl ?_
              refine wp_skip ?_
              refine x_seq ?_
              have he : pickE ax ay bx by' px py r near = 34 := by unfold pickE; rw [if_neg (by rw [hea.out]; decide), if_neg (by rw [heb.out]; decide), if_neg (by simp [show rngB near = true from by simpa using h7])]; (try simp only [decide_eq_true_eq, decide_eq_false_iff_not] at hg9_3); (try simp only [decide_eq_true_eq, decide_eq_false_iff_not] at hg11_3); rw [if_neg (by omega), if_neg (by omega)]
              refine x_region ?_
              refine x_run (v := .agg (#[.int .i64 0, .int .i64 0])) st (r_build0 bz25 rfl) rfl rfl (by decide) ?_
              clear st a; intro a st
              refine x_call st rfl rfl ent14 rfl rfl (by decide) ((bad_circle 34 _)) ?_
              intro a1 w1 v1 hk1 hv hn st1; obtain ⟨b8, rfl, hbx, hlx⟩ := hv
              replace st1 := st1.add hbx (hn b8 hlx)
              clear hn hk1 hbx hlx st a w; revert st1; revert a1; revert w1; intro w a st
              refine x_store st 2 rfl rfl rfl rfl (run_storeW (st.at 2 rfl) s25 rfl (by first | rfl | simp [Value.oneCell'])) rfl rfl ?_
              clear st a w; intro a w st
              replace st := st.cast rfl (show _ = ([(b8, .cells (#[.string (⟨#[99, 105, 114, 99, 108, 101]⟩), .iface 44 (.int .i64 34)]) 82 (0, 0)), (b5, .cells (#[.int .i64 near]) 2 (0, 0)), (b4, .cells (#[.int .i64 0, .int .i64 0]) 25 (0, 0)), (b3, .cells (#[.int .i64 px, .int .i64 py]) 25 (0, 0)), (b2, .cells (#[.int .i64 bx, .int .i64 by']) 25 (0, 0)), (b1, .cells (#[.int .i64 ax, .int .i64 ay]) 25 (0, 0))] : Hp) from rfl)
              refine xseg 1 st rfl ?_
              clear st a; intro a st
              refine x_nil ?_
              refine x_wpret ?_
              exact x_retp st [.agg (#[.int .i64 0, .int .i64 0]), .iface 80 (.pointer (some ⟨b8, 0, none⟩))] rfl ⟨⟨_, rfl, run_loadW (st.at 2 rfl) r25.choose_spec.1 r25.choose_spec.2 s25 rfl⟩, rfl, trivial⟩ rfl (⟨_, .inr ⟨by rw [he]; decide, _, rfl, by rw [he]; exact st.at 0 rfl, (st.own _ (List.mem_of_getElem? (i := 0) rfl)).resolve_left (by simp)⟩, by rw [he]; rfl⟩)
        · rw [hg9_3] at st
          refine x_skip st (b := true) (c := false) rfl rfl rfl (by decide) rfl (by decide) ?_
          clear st a; intro a st
          refine x_skip st (b := true) (c := false) rfl rfl rfl (by decide) rfl (by decide) ?_
          clear st a; intro a st
          refine x_skip st (b := true) (c := false) rfl rfl rfl (by decide) rfl (by decide) ?_
          clear st a; intro a st
          refine xseg 2 st rfl ?_
          clear st a; intro a st
          refine x_nil ?_
          refine x_condF st rfl ?_
          refine x_seq ?_
          refine x_region ?_
          refine xseg 4 st rfl ?_
          clear st a; intro a st
          rcases Bool.eq_false_or_eq_true (decide (offV bx by' px py r ≤ near)) with hg11_3 | hg11_3
          · rw [hg11_3] at st
            refine x_unguard st (b := true) rfl rfl rfl ?_
            refine xseg 1 st rfl ?_
            clear st a; intro a st
            refine x_unguard st (b := true) rfl rfl rfl ?_
            refine xseg 1 st rfl ?_
            clear st a; intro a st
            refine x_unguard st (b := true) rfl rfl rfl ?_
            refine xseg 3 st rfl ?_
            clear st a; intro a st
            refine x_nil ?_
            refine x_condD st rfl (fun h11 => ?_) (fun h11 => ?_)
            · refine x_seq ?_
              have hA : pickA ax ay bx by' px py r near = false := by unfold pickA; (try simp only [decide_eq_true_eq, decide_eq_false_iff_not] at hg9_3); (try simp only [decide_eq_true_eq, decide_eq_false_iff_not] at hg11_3); exact decide_eq_false (by omega)
              have he : pickE ax ay bx by' px py r near = 0 := by unfold pickE; rw [if_neg (by rw [hea.out]; decide), if_neg (by rw [heb.out]; decide), if_neg (by simp [show rngB near = true from by simpa using h7])]; (try simp only [decide_eq_true_eq, decide_eq_false_iff_not] at hg9_3); (try simp only [decide_eq_true_eq, decide_eq_false_iff_not] at hg11_3); rw [if_neg (by omega), if_pos (by omega)]
              refine x_region ?_
              refine x_run (v := .agg (#[.int .i64 bx, .int .i64 by'])) st (r_load st rfl rfl (run_loadW (st.at 3 rfl) r25.choose_spec.1 r25.choose_spec.2 s25 rfl)) rfl rfl (by decide) ?_
              clear st a; intro a st
              refine x_store st 1 rfl rfl rfl rfl (run_storeW (st.at 1 rfl) s25 rfl (by first | rfl | simp [Value.oneCell'])) rfl rfl ?_
              clear st a w; intro a w st
              replace st := st.cast rfl (show _ = ([(b5, .cells (#[.int .i64 near]) 2 (0, 0)), (b4, .cells (#[.int .i64 bx, .int .i64 by']) 25 (0, 0)), (b3, .cells (#[.int .i64 px, .int .i64 py]) 25 (0, 0)), (b2, .cells (#[.int .i64 bx, .int .i64 by']) 25 (0, 0)), (b1, .cells (#[.int .i64 ax, .int .i64 ay]) 25 (0, 0))] : Hp) from rfl)
              refine xseg 1 st rfl ?_
              clear st a; intro a st
              refine x_nil ?_
              refine x_wpret ?_
              refine x_blockRet ?_
              refine x_thenRet ?_
              exact x_retp st [.agg (#[.int .i64 bx, .int .i64 by']), .nilIface] rfl ⟨⟨_, rfl, run_loadW (st.at 1 rfl) r25.choose_spec.1 r25.choose_spec.2 s25 rfl⟩, rfl, trivial⟩ rfl (⟨_, .inl ⟨he, rfl⟩, by rw [he, hA]; rfl⟩)
            · refine wp_skip ?_
              refine x_seq ?_
              have he : pickE ax ay bx by' px py r near = 34 := by unfold pickE; rw [if_neg (by rw [hea.out]; decide), if_neg (by rw [heb.out]; decide), if_neg (by simp [show rngB near = true from by simpa using h7])]; (try simp only [decide_eq_true_eq, decide_eq_false_iff_not] at hg9_3); (try simp only [decide_eq_true_eq, decide_eq_false_iff_not] at hg11_3); rw [if_neg (by omega), if_neg (by omega)]
              refine x_region ?_
              refine x_run (v := .agg (#[.int .i64 0, .int .i64 0])) st (r_build0 bz25 rfl) rfl rfl (by decide) ?_
              clear st a; intro a st
              refine x_call st rfl rfl ent14 rfl rfl (by decide) ((bad_circle 34 _)) ?_
              intro a1 w1 v1 hk1 hv hn st1; obtain ⟨b9, rfl, hbx, hlx⟩ := hv
              replace st1 := st1.add hbx (hn b9 hlx)
              clear hn hk1 hbx hlx st a w; revert st1; revert a1; revert w1; intro w a st
              refine x_store st 2 rfl rfl rfl rfl (run_storeW (st.at 2 rfl) s25 rfl (by first | rfl | simp [Value.oneCell'])) rfl rfl ?_
              clear st a w; intro a w st
              replace st := st.cast rfl (show _ = ([(b9, .cells (#[.string (⟨#[99, 105, 114, 99, 108, 101]⟩), .iface 44 (.int .i64 34)]) 82 (0, 0)), (b5, .cells (#[.int .i64 near]) 2 (0, 0)), (b4, .cells (#[.int .i64 0, .int .i64 0]) 25 (0, 0)), (b3, .cells (#[.int .i64 px, .int .i64 py]) 25 (0, 0)), (b2, .cells (#[.int .i64 bx, .int .i64 by']) 25 (0, 0)), (b1, .cells (#[.int .i64 ax, .int .i64 ay]) 25 (0, 0))] : Hp) from rfl)
              refine xseg 1 st rfl ?_
              clear st a; intro a st
              refine x_nil ?_
              refine x_wpret ?_
              exact x_retp st [.agg (#[.int .i64 0, .int .i64 0]), .iface 80 (.pointer (some ⟨b9, 0, none⟩))] rfl ⟨⟨_, rfl, run_loadW (st.at 2 rfl) r25.choose_spec.1 r25.choose_spec.2 s25 rfl⟩, rfl, trivial⟩ rfl (⟨_, .inr ⟨by rw [he]; decide, _, rfl, by rw [he]; exact st.at 0 rfl, (st.own _ (List.mem_of_getElem? (i := 0) rfl)).resolve_left (by simp)⟩, by rw [he]; rfl⟩)
          · rw [hg11_3] at st
            refine x_skip st (b := true) (c := false) rfl rfl rfl (by decide) rfl (by decide) ?_
            clear st a; intro a st
            refine x_skip st (b := true) (c := false) rfl rfl rfl (by decide) rfl (by decide) ?_
            clear st a; intro a st
            refine x_skip st (b := true) (c := false) rfl rfl rfl (by decide) rfl (by decide) ?_
            clear st a; intro a st
            refine xseg 2 st rfl ?_
            clear st a; intro a st
            refine x_nil ?_
            refine x_condF st rfl ?_
            refine wp_skip ?_
            refine x_seq ?_
            have he : pickE ax ay bx by' px py r near = 34 := by unfold pickE; rw [if_neg (by rw [hea.out]; decide), if_neg (by rw [heb.out]; decide), if_neg (by simp [show rngB near = true from by simpa using h7])]; (try simp only [decide_eq_true_eq, decide_eq_false_iff_not] at hg9_3); (try simp only [decide_eq_true_eq, decide_eq_false_iff_not] at hg11_3); rw [if_neg (by omega), if_neg (by omega)]
            refine x_region ?_
            refine x_run (v := .agg (#[.int .i64 0, .int .i64 0])) st (r_build0 bz25 rfl) rfl rfl (by decide) ?_
            clear st a; intro a st
            refine x_call st rfl rfl ent14 rfl rfl (by decide) ((bad_circle 34 _)) ?_
            intro a1 w1 v1 hk1 hv hn st1; obtain ⟨b10, rfl, hbx, hlx⟩ := hv
            replace st1 := st1.add hbx (hn b10 hlx)
            clear hn hk1 hbx hlx st a w; revert st1; revert a1; revert w1; intro w a st
            refine x_store st 2 rfl rfl rfl rfl (run_storeW (st.at 2 rfl) s25 rfl (by first | rfl | simp [Value.oneCell'])) rfl rfl ?_
            clear st a w; intro a w st
            replace st := st.cast rfl (show _ = ([(b10, .cells (#[.string (⟨#[99, 105, 114, 99, 108, 101]⟩), .iface 44 (.int .i64 34)]) 82 (0, 0)), (b5, .cells (#[.int .i64 near]) 2 (0, 0)), (b4, .cells (#[.int .i64 0, .int .i64 0]) 25 (0, 0)), (b3, .cells (#[.int .i64 px, .int .i64 py]) 25 (0, 0)), (b2, .cells (#[.int .i64 bx, .int .i64 by']) 25 (0, 0)), (b1, .cells (#[.int .i64 ax, .int .i64 ay]) 25 (0, 0))] : Hp) from rfl)
            refine xseg 1 st rfl ?_
            clear st a; intro a st
            refine x_nil ?_
            refine x_wpret ?_
            exact x_retp st [.agg (#[.int .i64 0, .int .i64 0]), .iface 80 (.pointer (some ⟨b10, 0, none⟩))] rfl ⟨⟨_, rfl, run_loadW (st.at 2 rfl) r25.choose_spec.1 r25.choose_spec.2 s25 rfl⟩, rfl, trivial⟩ rfl (⟨_, .inr ⟨by rw [he]; decide, _, rfl, by rw [he]; exact st.at 0 rfl, (st.own _ (List.mem_of_getElem? (i := 0) rfl)).resolve_left (by simp)⟩, by rw [he]; rfl⟩)
    · replace st1 := st1.add hbx (hn be hlx); replace hez : Hid (offE bx by' px py r ≠ 0) := hez; clear hn hk1 hbx hlx st a w; revert st1; revert a1; revert w1; intro w a st
      have heb := hez; clear hez
      refine xseg 1 st rfl ?_
      clear st a; intro a st
      refine xp st (.int .i64 0) rfl (ieq (if_neg heb.out)) rfl rfl (by decide) ?_
      clear st a; intro a st
      refine xseg 3 st rfl ?_
      clear st a; intro a st
      refine x_nil ?_
      refine x_seq ?_
      refine x_seq ?_
      refine x_region ?_
      refine xseg 1 st rfl ?_
      clear st a; intro a st
      refine x_run (v := .bool true) st (r_eqNil (neq := true) (b := false) st rfl rfl (.inr ⟨⟨_, _, rfl⟩, rfl⟩) ui27) rfl rfl (by decide) ?_
      clear st a; intro a st
      refine x_nil ?_
      refine x_condT st rfl ?_
      refine x_seq ?_
      have he : pickE ax ay bx by' px py r near = 27 := by unfold pickE; rw [if_neg (by rw [hea.out]; decide), if_pos heb.out]
      refine x_region ?_
      refine x_run (v := .agg (#[.int .i64 0, .int .i64 0])) st (r_build0 bz25 rfl) rfl rfl (by decide) ?_
      clear st a; intro a st
      refine xseg 1 st rfl ?_
      clear st a; intro a st
      refine x_store st 1 rfl rfl rfl rfl (run_storeW (st.at 1 rfl) s25 rfl (by first | rfl | simp [Value.oneCell'])) rfl rfl ?_
      clear st a w; intro a w st
      replace st := st.cast rfl (show _ = ([(be, .cells (#[.string (⟨#[99, 105, 114, 99, 108, 101]⟩), .iface 44 (.int .i64 (offE bx by' px py r))]) 82 (0, 0)), (b4, .cells (#[.int .i64 0, .int .i64 0]) 25 (0, 0)), (b3, .cells (#[.int .i64 px, .int .i64 py]) 25 (0, 0)), (b2, .cells (#[.int .i64 bx, .int .i64 by']) 25 (0, 0)), (b1, .cells (#[.int .i64 ax, .int .i64 ay]) 25 (0, 0))] : Hp) from rfl)
      refine xseg 1 st rfl ?_
      clear st a; intro a st
      refine x_nil ?_
      refine x_wpret ?_
      refine x_thenRet ?_
      exact x_retp st [.agg (#[.int .i64 0, .int .i64 0]), .iface 80 (.pointer (some ⟨be, 0, none⟩))] rfl ⟨⟨_, rfl, run_loadW (st.at 1 rfl) r25.choose_spec.1 r25.choose_spec.2 s25 rfl⟩, rfl, trivial⟩ rfl (⟨_, .inr ⟨by rw [he]; decide, _, rfl, by rw [he, ← offE_27 heb.out]; exact st.at 0 rfl, (st.own _ (List.mem_of_getElem? (i := 0) rfl)).resolve_left (by simp)⟩, by rw [he]; rfl⟩)
  · replace st1 := st1.add hbx (hn be hlx); replace hez : Hid (offE ax ay px py r ≠ 0) := hez; clear hn hk1 hbx hlx st a w; revert st1; revert a1; revert w1; intro w a st
    have hea := hez; clear hez
    refine xseg 1 st rfl ?_
    clear st a; intro a st
    refine xp st (.int .i64 0) rfl (ieq (if_neg hea.out)) rfl rfl (by decide) ?_
    clear st a; intro a st
    refine xseg 3 st rfl ?_
    clear st a; intro a st
    refine x_nil ?_
    refine x_seq ?_
    refine x_seq ?_
    refine x_region ?_
    refine xseg 1 st rfl ?_
    clear st a; intro a st
    refine x_run (v := .bool true) st (r_eqNil (neq := true) (b := false) st rfl rfl (.inr ⟨⟨_, _, rfl⟩, rfl⟩) ui27) rfl rfl (by decide) ?_
    clear st a; intro a st
    refine x_nil ?_
    refine x_condT st rfl ?_
    refine x_seq ?_
    have he : pickE ax ay bx by' px py r near = 27 := by unfold pickE; rw [if_pos hea.out]
    refine x_region ?_
    refine x_run (v := .agg (#[.int .i64 0, .int .i64 0])) st (r_build0 bz25 rfl) rfl rfl (by decide) ?_
    clear st a; intro a st
    refine xseg 1 st rfl ?_
    clear st a; intro a st
    refine x_store st 1 rfl rfl rfl rfl (run_storeW (st.at 1 rfl) s25 rfl (by first | rfl | simp [Value.oneCell'])) rfl rfl ?_
    clear st a w; intro a w st
    replace st := st.cast rfl (show _ = ([(be, .cells (#[.string (⟨#[99, 105, 114, 99, 108, 101]⟩), .iface 44 (.int .i64 (offE ax ay px py r))]) 82 (0, 0)), (b4, .cells (#[.int .i64 0, .int .i64 0]) 25 (0, 0)), (b3, .cells (#[.int .i64 px, .int .i64 py]) 25 (0, 0)), (b2, .cells (#[.int .i64 bx, .int .i64 by']) 25 (0, 0)), (b1, .cells (#[.int .i64 ax, .int .i64 ay]) 25 (0, 0))] : Hp) from rfl)
    refine xseg 1 st rfl ?_
    clear st a; intro a st
    refine x_nil ?_
    refine x_wpret ?_
    refine x_thenRet ?_
    exact x_retp st [.agg (#[.int .i64 0, .int .i64 0]), .iface 80 (.pointer (some ⟨be, 0, none⟩))] rfl ⟨⟨_, rfl, run_loadW (st.at 1 rfl) r25.choose_spec.1 r25.choose_spec.2 s25 rfl⟩, rfl, trivial⟩ rfl (⟨_, .inr ⟨by rw [he]; decide, _, rfl, by rw [he, ← offE_27 hea.out]; exact st.at 0 rfl, (st.own _ (List.mem_of_getElem? (i := 0) rfl)).resolve_left (by simp)⟩, by rw [he]; rfl⟩)

theorem ErrV.zero {w0 w : World} {op : ByteArray} {n : Int} {u : Value} (h : ErrV w0 w op n u) (hn : n = 0) : u = .nilIface := by
  rcases h with ⟨_, h⟩ | ⟨h, _⟩
  · exact h
  · exact absurd hn h
theorem ErrV.some {w0 w : World} {op : ByteArray} {n k : Int} {u : Value} (h : ErrV w0 w op n u) (hn : n = k) (hk : k ≠ 0) : ∃ b, u = .iface 80 (.pointer (some ⟨b, 0, none⟩)) ∧ w.heap[b]? = some (errObj op k) ∧ w0.heap.size ≤ b := by
  subst hn
  rcases h with ⟨h, _⟩ | ⟨_, h⟩
  · exact absurd h hk
  · exact h
theorem Meet_or (px py r qx qy s base : Int) (w0 : World) : Fn Tryd.prog 6 [.agg #[.int .i64 px, .int .i64 py], .int .i64 r, .agg #[.int .i64 qx, .int .i64 qy], .int .i64 s, .int .i64 base] w0 [] (fun v w' =>
    (meetE px py r qx qy s base = 0 ∧ v = .tuple #[.agg #[.int .i64 (mP1 px py r qx qy s).x, .int .i64 (mP1 px py r qx qy s).y], .agg #[.int .i64 (mP2 px py r qx qy s).x, .int .i64 (mP2 px py r qx qy s).y], .nilIface]) ∨
    (meetE px py r qx qy s base ≠ 0 ∧ ∃ b, v = .tuple #[.agg #[.int .i64 0, .int .i64 0], .agg #[.int .i64 0, .int .i64 0], .iface 80 (.pointer (some ⟨b, 0, none⟩))] ∧ w'.heap[b]? = some (errObj ⟨#[99, 105, 114, 99, 108, 101]⟩ (meetE px py r qx qy s base)) ∧ w0.heap.size ≤ b)) :=
  (Meet_ok px py r qx qy s base w0).mono fun v w' _ ⟨u, hu, hv⟩ => by
    subst hv
    rcases hu with ⟨h, rfl⟩ | ⟨h, b, rfl, h2, h3⟩
    · left; simp only [h, if_true, true_and]
    · right; refine ⟨h, b, ?_, h2, h3⟩; simp only [h, if_false]

end Go.Proofs.YtnkbhmonceiocaaDoor
