/-
  The package circle of the program: ranges, product, side, place, Meet.
-/
import Derived.Test.YtnkbhmonceiocaaDoorFx
import Derived.Test.YtnkbhmonceiocaaDoorErr
import Derived.Test.YtnkbhmonceiocaaDoorInts
namespace Go.Proofs.YtnkbhmonceiocaaDoor
open Go Go.RowKit
namespace FCirc
theorem bld25_0i64_1i64 (x0 : Int) (x1 : Int) (w : World) : (Instr.build 25 #[(0, .int .i64 x0), (1, .int .i64 x1)]).run Tryd.prog w = .ok (.agg #[.int .i64 x0, .int .i64 x1]) w := by kernel_rfl
theorem bsl31_2_2 (x0 : Int) (x1 : Int) (w : World) : (Instr.buildSlice 31 2 #[(0, .int .i64 x0), (1, .int .i64 x1)]).run Tryd.prog w = .ok (.slice (some ⟨w.heap.size, 0, none⟩) 2 2) (w.alloc (.cells #[.int .i64 x0, .int .i64 x1] 2 (0, 0))) := by kernel_rfl
theorem bz25 (w : World) : (Instr.build 25 #[]).run Tryd.prog w = .ok (.agg (#[.int .i64 0, .int .i64 0])) w := by kernel_rfl
theorem ent12 (args : Array Value) (w : World) : (callFunc 12 args).run Tryd.prog w = .ok (.enter 12 args) w := enters_at Tryd.func12 (by kernel_rfl) rfl args w
theorem ent13 (args : Array Value) (w : World) : (callFunc 13 args).run Tryd.prog w = .ok (.enter 13 args) w := enters_at Tryd.func13 (by kernel_rfl) rfl args w
theorem ent14 (args : Array Value) (w : World) : (callFunc 14 args).run Tryd.prog w = .ok (.enter 14 args) w := enters_at Tryd.func14 (by kernel_rfl) rfl args w
theorem ent15 (args : Array Value) (w : World) : (callFunc 15 args).run Tryd.prog w = .ok (.enter 15 args) w := enters_at Tryd.func15 (by kernel_rfl) rfl args w
theorem ent16 (args : Array Value) (w : World) : (callFunc 16 args).run Tryd.prog w = .ok (.enter 16 args) w := enters_at Tryd.func16 (by kernel_rfl) rfl args w
theorem ent17 (args : Array Value) (w : World) : (callFunc 17 args).run Tryd.prog w = .ok (.enter 17 args) w := enters_at Tryd.func17 (by kernel_rfl) rfl args w
theorem ent18 (args : Array Value) (w : World) : (callFunc 18 args).run Tryd.prog w = .ok (.enter 18 args) w := enters_at Tryd.func18 (by kernel_rfl) rfl args w
theorem ent19 (args : Array Value) (w : World) : (callFunc 19 args).run Tryd.prog w = .ok (.enter 19 args) w := enters_at Tryd.func19 (by kernel_rfl) rfl args w
theorem ent30 (args : Array Value) (w : World) : (callFunc 30 args).run Tryd.prog w = .ok (.enter 30 args) w := enters_at Tryd.func30 (by kernel_rfl) rfl args w
theorem ent31 (args : Array Value) (w : World) : (callFunc 31 args).run Tryd.prog w = .ok (.enter 31 args) w := enters_at Tryd.func31 (by kernel_rfl) rfl args w
theorem ent33 (args : Array Value) (w : World) : (callFunc 33 args).run Tryd.prog w = .ok (.enter 33 args) w := enters_at Tryd.func33 (by kernel_rfl) rfl args w
theorem ent44 (args : Array Value) (w : World) : (callFunc 44 args).run Tryd.prog w = .ok (.enter 44 args) w := enters_at Tryd.func44 (by kernel_rfl) rfl args w
theorem ent45 (args : Array Value) (w : World) : (callFunc 45 args).run Tryd.prog w = .ok (.enter 45 args) w := enters_at Tryd.func45 (by kernel_rfl) rfl args w
theorem ent46 (args : Array Value) (w : World) : (callFunc 46 args).run Tryd.prog w = .ok (.enter 46 args) w := enters_at Tryd.func46 (by kernel_rfl) rfl args w
theorem mixed : Tryd.prog.follows .mixedOrders = true := by kernel_rfl
theorem o25_0 : fieldOff Tryd.prog 25 0 = some 0 := by kernel_rfl
theorem o25_1 : fieldOff Tryd.prog 25 1 = some 1 := by kernel_rfl
theorem r25 : ∃ d, Tryd.prog.underlying 25 = some d ∧ d.isRow = true := ⟨_, Tryd.underlying25, by kernel_rfl⟩
theorem s2 : (Tryd.prog.info? 2).map (·.size) = some 1 := by kernel_rfl
theorem s25 : (Tryd.prog.info? 25).map (·.size) = some 2 := by kernel_rfl
theorem s45 : (Tryd.prog.info? 45).map (·.size) = some 1 := by kernel_rfl
theorem s47 : (Tryd.prog.info? 47).map (·.size) = some 16 := by kernel_rfl
theorem u2 : Tryd.prog.underlying 2 = some (.int .i64) := by kernel_rfl
theorem u31 : Tryd.prog.underlying 31 = some (.slice 2) := by kernel_rfl
theorem u45 : Tryd.prog.underlying 45 = some (.int .u64) := by kernel_rfl
theorem u47 : Tryd.prog.underlying 47 = some (.array 16 45) := by kernel_rfl
theorem z25 : (Tryd.prog.info? 25).bind (·.zero) = some (.agg (#[.int .i64 0, .int .i64 0])) := by kernel_rfl
theorem z47 : (Tryd.prog.info? 47).bind (·.zero) = some (.agg (#[.int .u64 0, .int .u64 0, .int .u64 0, .int .u64 0, .int .u64 0, .int .u64 0, .int .u64 0, .int .u64 0, .int .u64 0, .int .u64 0, .int .u64 0, .int .u64 0, .int .u64 0, .int .u64 0, .int .u64 0, .int .u64 0])) := by kernel_rfl
end FCirc
open FCirc
theorem Mul_ok (x y : Int) (hx : inR x) (hy : inR y) (h : inR (x * y)) (w0 : World) : Fn Tryd.prog 30 [.agg (Wd x), .agg (Wd y)] w0 [] (fun v _ => v = .tuple #[.agg (Wd (x * y)), .bool true]) :=
  (Mul_all x y hx hy w0).mono fun v w' _ h1 => by rw [h1, inRb_true h]; rfl
def rngL (n : Nat) (g : Nat → Int) : Nat → Bool
  | 0 => true
  | k + 1 => rngL n g k && rngB (g k)
theorem rngB_lo {r : Int} (h : decide (r < 0) = true) : rngB r = false := by simp at h; unfold rngB; rw [decide_eq_false (by omega)]; rfl
theorem rngB_hi {r : Int} (h : r > 2097152) : rngB r = false := by unfold rngB; rw [decide_eq_false (show ¬ r ≤ 2097152 by omega), Bool.and_false]
theorem rngB_in {r : Int} (h : decide (r < 0) = false) (h2 : ¬ r > 2097152) : rngB r = true := by simp at h; unfold rngB; rw [decide_eq_true (by omega), decide_eq_true (by omega)]; rfl
theorem rngL_no {n k : Nat} {g : Nat → Int} (h : rngB (g k) = false) : ∀ {m : Nat}, k < m → rngL n g m = false
  | m + 1, hk => by
    unfold rngL
    by_cases e : k = m
    · subst e; rw [h, Bool.and_false]
    · rw [rngL_no h (show k < m by omega), Bool.false_and]

set_option maxRecDepth 20000 in
set_option maxHeartbeats 1000000 in
theorem ranges_ok {w0 : World} {b n cap N : Nat} {g : Nat → Int} {ty : TypeId} (hb : Hid (w0.heap[b]? = some (.cells (AI N g) ty (0, 0)))) (hn : n ≤ N) (hN : n < 1099511627776)  :
    Fn Tryd.prog 13 [.slice (some ⟨b, 0, none⟩) n cap] w0 [] (fun v _ => v = .bool (rngL n g n)) := by
  refine x_enter' (n := 18) Tryd.func13 rfl rfl (Nat.le_of_ble_eq_true rfl) fun a w st => ?_
  refine x_seq ?_
  refine x_region ?_
  refine xseg 1 st rfl ?_
  clear st a; intro a st
  refine x_nil ?_
  refine x_seq ?_
  refine x_seq ?_
  refine x_region ?_
  refine xseg 1 st rfl ?_
  clear st a; intro a st
  refine x_run (v := .int .i64 ((n : Nat) : Int)) st (r_len st rfl rfl u31) rfl rfl (by decide) ?_
  clear st a; intro a st
  refine xseg 1 st rfl ?_
  clear st a; intro a st
  refine x_nil ?_
  refine wp_block ?_
  refine x_loop (G := Nat) (fun k a w => St w0 [] 18 [(0, .slice (some ⟨b, 0, none⟩) n cap), (5, .slice (some ⟨b, 0, none⟩) n cap), (6, .int .i64 ((n : Nat) : Int)), (7, .int .i64 ((k : Nat) : Int))] ([] : Hp) a w ∧ (k ≤ n) ∧ (rngL n g k = true)) (fun k => n - k) 0 ⟨st.pickTo [0, 5, 6, 7] (by kernel_rfl), by omega, rfl⟩ ?_
  clear st a w; intro k a w ⟨st, hk, hR⟩
  refine x_seq ?_
  refine x_region ?_
  refine xseg 1 st rfl ?_
  clear st a; intro a st
  refine x_nil ?_
  refine x_seq ?_
  refine x_condD st rfl (fun hc2 => ?_) (fun hc2 => ?_)
  · refine wp_skip ?_
    refine x_seq ?_
    refine wp_block ?_
    refine x_seq ?_
    refine x_region ?_
    refine x_run (v := .pointer (some ⟨b, k, none⟩)) st (r_index st rfl rfl rfl (run_indexS' (k := k) (off := k) u31 s2 (by omega) (by first | rfl | omega) _)) rfl rfl (by decide) ?_
    clear st a; intro a st
    refine x_run (v := .int .i64 (g k)) st (r_load st rfl rfl (run_load1 (st.old hb.out (by simp)) u2 rfl (AI_get (by omega)))) rfl rfl (by decide) ?_
    clear st a; intro a st
    refine xseg 1 st rfl ?_
    clear st a; intro a st
    refine x_nil ?_
    refine x_seq ?_
    refine x_region ?_
    refine xseg 3 st rfl ?_
    clear st a; intro a st
    rcases Bool.eq_false_or_eq_true (decide (g k < 0)) with hg4_2 | hg4_2
    · rw [hg4_2] at st
      refine x_skip st (b := false) (c := true) rfl rfl rfl (by decide) rfl (by decide) ?_
      clear st a; intro a st
      refine x_skip st (b := false) (c := true) rfl rfl rfl (by decide) rfl (by decide) ?_
      clear st a; intro a st
      refine xseg 1 st rfl ?_
      clear st a; intro a st
      refine x_nil ?_
      refine x_condT st rfl ?_
      refine x_seq ?_
      refine x_region ?_
      refine xseg 1 st rfl ?_
      clear st a; intro a st
      refine x_nil ?_
      refine x_wpret ?_
      refine x_blockRet ?_
      refine x_thenRet ?_
      refine x_thenRet ?_
      refine x_blockRet ?_
      refine x_thenRet ?_
      exact x_retp st [.bool false] rfl ⟨rfl, trivial⟩ rfl (beq (rngL_no (rngB_lo hg4_2) (show k < n by omega)).symm)
    · rw [hg4_2] at st
      refine x_unguard st (b := false) rfl rfl rfl ?_
      refine xseg 1 st rfl ?_
      clear st a; intro a st
      refine x_unguard st (b := false) rfl rfl rfl ?_
      refine xseg 2 st rfl ?_
      clear st a; intro a st
      refine x_nil ?_
      refine x_condD st rfl (fun h4 => ?_) (fun h4 => ?_)
      · refine x_seq ?_
        refine x_region ?_
        refine xseg 1 st rfl ?_
        clear st a; intro a st
        refine x_nil ?_
        refine x_wpret ?_
        refine x_blockRet ?_
        refine x_thenRet ?_
        refine x_thenRet ?_
        refine x_blockRet ?_
        refine x_thenRet ?_
        exact x_retp st [.bool false] rfl ⟨rfl, trivial⟩ rfl (beq (rngL_no (rngB_hi h4) (show k < n by omega)).symm)
      · refine wp_skip ?_
        refine x_region ?_
        refine xp st (.int .i64 ((k + 1 : Nat) : Int)) rfl (wi64 (by omega) (by omega)) rfl rfl (by decide) ?_
        clear st a; intro a st
        refine xseg 1 st rfl ?_
        clear st a; intro a st
        refine x_nil ?_
        exact ⟨k + 1, ⟨st.pickTo [0, 5, 6, 7] (by kernel_rfl), by omega, by unfold rngL; rw [hR, rngB_in hg4_2 h4]; rfl⟩, by omega⟩
  · refine wp_exit ?_
    refine x_thenExit ?_
    refine x_thenExit ?_
    refine x_inBlock ?_
    refine x_seq ?_
    obtain rfl : n = k := by omega
    refine x_region ?_
    refine xseg 1 st rfl ?_
    clear st a; intro a st
    refine x_nil ?_
    refine x_wpret ?_
    exact x_retp st [.bool true] rfl ⟨rfl, trivial⟩ rfl (beq hR.symm)

theorem ranges1_ok {b cap : Nat} {r : Int} {ty : TypeId} {w0 : World} (hb : w0.heap[b]? = some (.cells #[.int .i64 r] ty (0, 0))) : Fn Tryd.prog 13 [.slice (some ⟨b, 0, none⟩) 1 cap] w0 [] (fun v _ => v = .bool (rngB r)) :=
  (ranges_ok (N := 1) (g := fun _ => r) hb (by decide) (by decide)).mono fun v w' _ h1 => by rw [h1]; exact beq (Bool.true_and _)
theorem ranges2_ok {b cap : Nat} {r s : Int} {ty : TypeId} {w0 : World} (hb : w0.heap[b]? = some (.cells #[.int .i64 r, .int .i64 s] ty (0, 0))) : Fn Tryd.prog 13 [.slice (some ⟨b, 0, none⟩) 2 cap] w0 [] (fun v _ => v = .bool (rngB r && rngB s)) :=
  (ranges_ok (N := 2) (g := fun i => if i = 0 then r else s) hb (by decide) (by decide)).mono fun v w' _ h1 => by rw [h1]; exact beq (by unfold rngL rngL rngL; simp)

set_option maxRecDepth 20000 in
set_option maxHeartbeats 1000000 in
theorem product_ok  (x y : Int) (hx : -9223372036854775808 ≤ x ∧ x < 9223372036854775808) (hy : -9223372036854775808 ≤ y ∧ y < 9223372036854775808) (w0 : World) :
    Fn Tryd.prog 16 [.int .i64 x, .int .i64 y] w0 [] (fun v _ => v = .agg (Wd (x * y))) := by
  have hxy : inR (x * y) := inR_abs (Nat.le_trans (mul_bd (A := 2 ^ 64) (B := 2 ^ 64) (by omega) (by omega)) (by decide))
  refine x_enter' (n := 16) Tryd.func16 rfl rfl (Nat.le_of_ble_eq_true rfl) fun a w st => ?_
  refine x_seq ?_
  refine x_region ?_
  refine x_alloc st rfl z47 rfl rfl (by decide) ?_
  clear st a; intro a w b1 st
  replace st := st.cast rfl (show _ = ([(b1, .cells (Wd 0) 47 (0, 0))] : Hp) from rfl)
  refine x_nil ?_
  refine x_seq ?_
  refine x_region ?_
  refine xseg 1 st rfl ?_
  clear st a; intro a st
  refine x_call st rfl rfl ent31 rfl rfl (by decide) (Of_ok x (by first | assumption | omega) _) ?_
  intro a1 w1 v1 hk1 hv hn st1; subst hv
  clear hn hk1 st a w; revert st1; revert a1; revert w1; intro w a st
  refine xseg 1 st rfl ?_
  clear st a; intro a st
  refine x_call st rfl rfl ent31 rfl rfl (by decide) (Of_ok y (by first | assumption | omega) _) ?_
  intro a1 w1 v1 hk1 hv hn st1; subst hv
  clear hn hk1 st a w; revert st1; revert a1; revert w1; intro w a st
  refine x_call st rfl rfl ent30 rfl rfl (by decide) ((Mul_ok x y (inR_64 hx) (inR_64 hy) hxy _)) ?_
  intro a1 w1 v1 hk1 hv hn st1; subst hv
  clear hn hk1 st a w; revert st1; revert a1; revert w1; intro w a st
  refine xseg 3 st rfl ?_
  clear st a; intro a st
  refine x_alloc st rfl z47 rfl rfl (by decide) ?_
  clear st a; intro a w b2 st
  replace st := st.cast rfl (show _ = ([(b2, .cells (Wd 0) 47 (0, 0)), (b1, .cells (Wd 0) 47 (0, 0))] : Hp) from rfl)
  refine x_store st 0 rfl rfl rfl rfl (run_storeW (st.at 0 rfl) (by first | exact s47 | simp only [s47, Wd_size]) (by first | rfl | simp only [Wd_size]) (AF_one _ _)) rfl rfl ?_
  clear st a w; intro a w st
  replace st := st.cast rfl (show _ = ([(b2, .cells (Wd (x * y)) 47 (0, 0)), (b1, .cells (Wd 0) 47 (0, 0))] : Hp) from rfl)
  refine xseg 1 st rfl ?_
  clear st a; intro a st
  refine x_nil ?_
  refine x_seq ?_
  refine x_region ?_
  refine x_run (v := .agg (Wd (x * y))) st (r_load st rfl rfl (run_loadW (st.at 0 rfl) u47 rfl s47 (Wd_size _))) rfl rfl (by decide) ?_
  clear st a; intro a st
  refine x_store st 1 rfl rfl rfl rfl (run_storeW (st.at 1 rfl) (by first | exact s47 | simp only [s47, Wd_size]) (by first | rfl | simp only [Wd_size]) (AF_one _ _)) rfl rfl ?_
  clear st a w; intro a w st
  replace st := st.cast rfl (show _ = ([(b2, .cells (Wd (x * y)) 47 (0, 0)), (b1, .cells (Wd (x * y)) 47 (0, 0))] : Hp) from rfl)
  refine x_nil ?_
  refine x_wpret ?_
  exact x_retp st [.agg (Wd (x * y))] rfl ⟨⟨_, rfl, run_loadW (st.at 1 rfl) u47 rfl s47 (Wd_size _)⟩, trivial⟩ rfl (rfl)

set_option maxRecDepth 20000 in
set_option maxHeartbeats 1000000 in
theorem side_ok  (f p q r u e : Int) (hf : f.natAbs ≤ 2 ^ 62) (hp : p.natAbs ≤ 2 ^ 62) (hq : q.natAbs ≤ 2 ^ 62) (hr : r.natAbs ≤ 2 ^ 62) (hu : u.natAbs ≤ 2 ^ 62) (he : 0 < e ∧ e ≤ 2 ^ 61) (w0 : World) :
    Fn Tryd.prog 33 [.int .i64 f, .int .i64 p, .int .i64 q, .int .i64 r, .int .i64 u, .int .i64 e] w0 [] (fun v _ => v = .tuple #[.int .i64 (i64of (sideF f p q r u e)), .bool (fit64 (sideF f p q r u e))]) := by
  have K := side_facts hf hp hq hr hu he
  refine x_enter' (n := 47) Tryd.func33 rfl rfl (Nat.le_of_ble_eq_true rfl) fun a w st => ?_
  refine x_seq ?_
  refine x_region ?_
  refine xseg 2 st rfl ?_
  clear st a; intro a st
  refine x_nil ?_
  refine x_seq ?_
  refine x_region ?_
  refine xseg 2 st rfl ?_
  clear st a; intro a st
  refine x_call st rfl rfl ent16 rfl rfl (by decide) ((product_ok p q (by omega) (by omega) _)) ?_
  intro a1 w1 v1 hk1 hv hn st1; subst hv
  clear hn hk1 st a w; revert st1; revert a1; revert w1; intro w a st
  refine xseg 2 st rfl ?_
  clear st a; intro a st
  refine x_call st rfl rfl ent16 rfl rfl (by decide) ((product_ok r u (by omega) (by omega) _)) ?_
  intro a1 w1 v1 hk1 hv hn st1; subst hv
  clear hn hk1 st a w; revert st1; revert a1; revert w1; intro w a st
  refine x_call st rfl rfl ent44 rfl rfl (by decide) ((Add_ok (p * q) (r * u) K.q1 K.q2 K.q3 _)) ?_
  intro a1 w1 v1 hk1 hv hn st1; subst hv
  clear hn hk1 st a w; revert st1; revert a1; revert w1; intro w a st
  refine xseg 3 st rfl ?_
  clear st a; intro a st
  refine x_alloc st rfl z47 rfl rfl (by decide) ?_
  clear st a; intro a w b1 st
  replace st := st.cast rfl (show _ = ([(b1, .cells (Wd 0) 47 (0, 0))] : Hp) from rfl)
  refine x_store st 0 rfl rfl rfl rfl (run_storeW (st.at 0 rfl) (by first | exact s47 | simp only [s47, Wd_size]) (by first | rfl | simp only [Wd_size]) (AF_one _ _)) rfl rfl ?_
  clear st a w; intro a w st
  replace st := st.cast rfl (show _ = ([(b1, .cells (Wd (p * q + r * u)) 47 (0, 0))] : Hp) from rfl)
  refine xseg 1 st rfl ?_
  clear st a; intro a st
  refine x_nil ?_
  refine x_seq ?_
  refine x_draw st [] [.det (.agg (Wd (p * q + r * u))), .det (.int .i64 e), .det (.int .i64 (2 * e)), .det (.agg (Wd (2 * e))), .det (.tuple #[.agg (Wd (rndF (p * q + r * u) (2 * e))), .bool true]), .det (.tuple #[.agg (Wd (rndF (p * q + r * u) (2 * e))), .bool true]), .det (.agg (Wd (rndF (p * q + r * u) (2 * e)))), .det (.bool true), .spec (.new (.cells (.agg (#[.int .u64 0, .int .u64 0, .int .u64 0, .int .u64 0, .int .u64 0, .int .u64 0, .int .u64 0, .int .u64 0, .int .u64 0, .int .u64 0, .int .u64 0, .int .u64 0, .int .u64 0, .int .u64 0, .int .u64 0, .int .u64 0]) : Value).cells 47 (0, 0))), .det undef, .det undef] mixed (by kernel_rfl)
    ⟨ob_w (Fi := [(14, .pointer (some ⟨b1, 0, none⟩))]) (by kernel_rfl) rfl rfl ⟨by kernel_rfl, trivial⟩ (fun a w st hk hxx => r_load st rfl rfl (run_loadW (st.at 0 rfl) u47 rfl s47 (Wd_size _))),
      ob_p (Fi := [(5, .int .i64 e)]) (by kernel_rfl) rfl rfl ⟨by kernel_rfl, trivial⟩ rfl rfl,
      ob_p (Fi := [(30, .int .i64 e)]) (by kernel_rfl) rfl rfl ⟨by kernel_rfl, trivial⟩ rfl (wi64 (by omega) rfl),
      ob_call (Fi := [(31, .int .i64 (2 * e))]) (by kernel_rfl) rfl ent31 rfl ⟨by kernel_rfl, trivial⟩ rfl (fun a w st hk hxx => (Of_ok (2 * e) (by omega) _)) (fun _ _ _ _ hp => ⟨hp, fun b hb => by cases hb⟩),
      ob_call (Fi := [(29, .agg (Wd (p * q + r * u))), (32, .agg (Wd (2 * e)))]) (by kernel_rfl) rfl ent45 rfl ⟨by kernel_rfl, by kernel_rfl, trivial⟩ rfl (fun a w st hk hxx => (Round_ok (p * q + r * u) (2 * e) K.q3 K.q4 (by omega) K.q5 K.q6 K.q7 _)) (fun _ _ _ _ hp => ⟨hp, fun b hb => by cases hb⟩),
      ob_p (Fi := [(33, .tuple #[.agg (Wd (rndF (p * q + r * u) (2 * e))), .bool true])]) (by kernel_rfl) rfl rfl ⟨by kernel_rfl, trivial⟩ rfl rfl,
      ob_p (Fi := [(28, .tuple #[.agg (Wd (rndF (p * q + r * u) (2 * e))), .bool true])]) (by kernel_rfl) rfl rfl ⟨by kernel_rfl, trivial⟩ rfl rfl,
      ob_p (Fi := [(28, .tuple #[.agg (Wd (rndF (p * q + r * u) (2 * e))), .bool true])]) (by kernel_rfl) rfl rfl ⟨by kernel_rfl, trivial⟩ rfl rfl,
      ob_alloc (by kernel_rfl) rfl z47 rfl,
      ob_store (by kernel_rfl),
      ob_store (by kernel_rfl), trivial⟩ ?_
  intro a1 w1 hk1 st1 he
  clear hk1 st a w; revert st1 he; revert a1; revert w1; intro w a st he
  replace st := st.pickTo (F' := [(0, .int .i64 f), (1, .int .i64 p), (2, .int .i64 q), (3, .int .i64 r), (4, .int .i64 u), (5, .int .i64 e), (12, .int .i64 0), (13, .bool false), (19, .int .i64 p), (20, .int .i64 q), (21, .agg (Wd (p * q))), (22, .int .i64 r), (23, .int .i64 u), (24, .agg (Wd (r * u))), (25, .tuple #[.agg (Wd (p * q + r * u)), .bool true]), (18, .tuple #[.agg (Wd (p * q + r * u)), .bool true]), (26, .agg (Wd (p * q + r * u))), (27, .bool true), (14, .pointer (some ⟨b1, 0, none⟩)), (15, .bool true), (34, .agg (Wd (rndF (p * q + r * u) (2 * e)))), (35, .bool true)]) [0, 1, 2, 3, 4, 5, 12, 13, 19, 20, 21, 22, 23, 24, 25, 18, 26, 27, 14, 15, 34, 35] (by kernel_rfl)
  obtain ⟨b2, heb2, hbb2, hnb2⟩ := he.new 8 rfl rfl
  replace st := (st.know heb2).add hbb2 hnb2
  replace st := st.cast rfl (show _ = ([(b2, .cells (Wd 0) 47 (0, 0)), (b1, .cells (Wd (p * q + r * u)) 47 (0, 0))] : Hp) from rfl)
  clear heb2 hbb2 hnb2 he
  change wpList _ _ _ [_, _] _ _
  refine x_store st 0 rfl rfl rfl rfl (run_storeW (st.at 0 rfl) (by first | exact s47 | simp only [s47, Wd_size]) (by first | rfl | simp only [Wd_size]) (AF_one _ _)) rfl rfl ?_
  clear st a w; intro a w st
  replace st := st.cast rfl (show _ = ([(b2, .cells (Wd (rndF (p * q + r * u) (2 * e))) 47 (0, 0)), (b1, .cells (Wd (p * q + r * u)) 47 (0, 0))] : Hp) from rfl)
  refine xseg 1 st rfl ?_
  clear st a; intro a st
  refine x_nil ?_
  show NP _ _ _ _
  refine NP.normal ?_
  refine x_seq ?_
  refine x_draw st [] [.det (.agg (Wd (rndF (p * q + r * u) (2 * e)))), .det (.int .i64 f), .det (.agg (Wd f)), .det (.tuple #[.agg (Wd (sideF f p q r u e)), .bool true]), .det (.tuple #[.agg (Wd (sideF f p q r u e)), .bool true]), .det (.agg (Wd (sideF f p q r u e))), .det (.bool true), .det undef] mixed (by kernel_rfl)
    ⟨ob_w (Fi := [(16, .pointer (some ⟨b2, 0, none⟩))]) (by kernel_rfl) rfl rfl ⟨by kernel_rfl, trivial⟩ (fun a w st hk hxx => r_load st rfl rfl (run_loadW (st.at 0 rfl) u47 rfl s47 (Wd_size _))),
      ob_p (Fi := [(0, .int .i64 f)]) (by kernel_rfl) rfl rfl ⟨by kernel_rfl, trivial⟩ rfl rfl,
      ob_call (Fi := [(38, .int .i64 f)]) (by kernel_rfl) rfl ent31 rfl ⟨by kernel_rfl, trivial⟩ rfl (fun a w st hk hxx => (Of_ok f (by omega) _)) (fun _ _ _ _ hp => ⟨hp, fun b hb => by cases hb⟩),
      ob_call (Fi := [(37, .agg (Wd (rndF (p * q + r * u) (2 * e)))), (39, .agg (Wd f))]) (by kernel_rfl) rfl ent44 rfl ⟨by kernel_rfl, by kernel_rfl, trivial⟩ rfl (fun a w st hk hxx => (Add_ok (rndF (p * q + r * u) (2 * e)) f K.q8 K.q9 K.q0 _)) (fun _ _ _ _ hp => ⟨hp, fun b hb => by cases hb⟩),
      ob_p (Fi := [(40, .tuple #[.agg (Wd (sideF f p q r u e)), .bool true])]) (by kernel_rfl) rfl rfl ⟨by kernel_rfl, trivial⟩ rfl rfl,
      ob_p (Fi := [(36, .tuple #[.agg (Wd (sideF f p q r u e)), .bool true])]) (by kernel_rfl) rfl rfl ⟨by kernel_rfl, trivial⟩ rfl rfl,
      ob_p (Fi := [(36, .tuple #[.agg (Wd (sideF f p q r u e)), .bool true])]) (by kernel_rfl) rfl rfl ⟨by kernel_rfl, trivial⟩ rfl rfl,
      ob_store (by kernel_rfl), trivial⟩ ?_
  intro a1 w1 hk1 st1 he
  clear hk1 st a w; revert st1 he; revert a1; revert w1; intro w a st he
  replace st := st.pickTo (F' := [(0, .int .i64 f), (1, .int .i64 p), (2, .int .i64 q), (3, .int .i64 r), (4, .int .i64 u), (5, .int .i64 e), (12, .int .i64 0), (13, .bool false), (19, .int .i64 p), (20, .int .i64 q), (21, .agg (Wd (p * q))), (22, .int .i64 r), (23, .int .i64 u), (24, .agg (Wd (r * u))), (25, .tuple #[.agg (Wd (p * q + r * u)), .bool true]), (18, .tuple #[.agg (Wd (p * q + r * u)), .bool true]), (26, .agg (Wd (p * q + r * u))), (27, .bool true), (14, .pointer (some ⟨b1, 0, none⟩)), (15, .bool true), (34, .agg (Wd (rndF (p * q + r * u) (2 * e)))), (35, .bool true), (16, .pointer (some ⟨b2, 0, none⟩)), (17, .bool true), (41, .agg (Wd (sideF f p q r u e)))]) [0, 1, 2, 3, 4, 5, 12, 13, 19, 20, 21, 22, 23, 24, 25, 18, 26, 27, 14, 15, 34, 35, 16, 17, 41] (by kernel_rfl)
  clear he
  change wpList _ _ _ [_] _ _
  refine x_store st 0 rfl rfl rfl rfl (run_storeW (st.at 0 rfl) (by first | exact s47 | simp only [s47, Wd_size]) (by first | rfl | simp only [Wd_size]) (AF_one _ _)) rfl rfl ?_
  clear st a w; intro a w st
  replace st := st.cast rfl (show _ = ([(b2, .cells (Wd (sideF f p q r u e)) 47 (0, 0)), (b1, .cells (Wd (p * q + r * u)) 47 (0, 0))] : Hp) from rfl)
  refine x_nil ?_
  show NP _ _ _ _
  refine NP.normal ?_
  refine x_seq ?_
  refine x_region ?_
  refine x_run (v := .agg (Wd (sideF f p q r u e))) st (r_load st rfl rfl (run_loadW (st.at 0 rfl) u47 rfl s47 (Wd_size _))) rfl rfl (by decide) ?_
  clear st a; intro a st
  refine x_call st rfl rfl ent46 rfl rfl (by decide) ((Int64_ok (sideF f p q r u e) K.q0 _)) ?_
  intro a1 w1 v1 hk1 hv hn st1; subst hv
  clear hn hk1 st a w; revert st1; revert a1; revert w1; intro w a st
  refine xseg 4 st rfl ?_
  clear st a; intro a st
  refine x_nil ?_
  refine x_wpret ?_
  exact x_retp st [.int .i64 (i64of (sideF f p q r u e)), .bool (fit64 (sideF f p q r u e))] rfl ⟨rfl, rfl, trivial⟩ rfl (rfl)

set_option maxRecDepth 20000 in
set_option maxHeartbeats 1000000 in
theorem place_ok  (px py aa k dx dy d : Int) (h1 : px.natAbs ≤ 2 ^ 61) (h2 : py.natAbs ≤ 2 ^ 61) (h3 : aa.natAbs ≤ 2 ^ 61) (h4 : k.natAbs ≤ 2 ^ 61) (h5 : dx.natAbs ≤ 2 ^ 61) (h6 : dy.natAbs ≤ 2 ^ 61) (h7 : 0 < d ∧ d ≤ 2 ^ 61) (w0 : World) :
    Fn Tryd.prog 19 [.agg (#[.int .i64 px, .int .i64 py]), .int .i64 aa, .int .i64 k, .int .i64 dx, .int .i64 dy, .int .i64 d] w0 [] (fun v _ => v = .tuple #[.agg #[.int .i64 (placeF px py aa k dx dy d).x, .int .i64 (placeF px py aa k dx dy d).y], .bool (placeF px py aa k dx dy d).ok]) := by
  refine x_enter' (n := 55) Tryd.func19 rfl rfl (Nat.le_of_ble_eq_true rfl) fun a w st => ?_
  refine x_seq ?_
  refine x_region ?_
  refine x_box st rfl rfl rfl rfl (by decide) ?_
  clear st a; intro a w b1 st
  refine x_alloc st rfl z25 rfl rfl (by decide) ?_
  clear st a; intro a w b2 st
  refine xseg 1 st rfl ?_
  clear st a; intro a st
  refine x_nil ?_
  refine x_seq ?_
  refine x_region ?_
  refine x_run (v := .pointer (some ⟨b1, 0, none⟩)) st (r_field st rfl rfl o25_0) rfl rfl (by decide) ?_
  clear st a; intro a st
  refine x_run (v := .int .i64 px) st (r_load st rfl rfl (run_load1 (st.at 1 rfl) u2 rfl rfl)) rfl rfl (by decide) ?_
  clear st a; intro a st
  refine xseg 3 st rfl ?_
  clear st a; intro a st
  refine x_run (v := .int .i64 (-k)) st (r_neg (z := -k) st rfl rfl (by rw [IntWalk.i64_in _ (by omega)]; omega)) rfl rfl (by decide) ?_
  clear st a; intro a st
  refine xseg 2 st rfl ?_
  clear st a; intro a st
  refine x_call st rfl rfl ent33 rfl rfl (by decide) ((side_ok px aa dx (-k) dy d (by omega) (by omega) (by omega) (by omega) (by omega) (by omega) _)) ?_
  intro a1 w1 v1 hk1 hv hn st1; subst hv
  clear hn hk1 st a w; revert st1; revert a1; revert w1; intro w a st
  refine xseg 5 st rfl ?_
  clear st a; intro a st
  refine x_nil ?_
  refine x_seq ?_
  refine x_region ?_
  refine x_run (v := .pointer (some ⟨b1, 1, none⟩)) st (r_field st rfl rfl o25_1) rfl rfl (by decide) ?_
  clear st a; intro a st
  refine x_run (v := .int .i64 py) st (r_load st rfl rfl (run_load1 (st.at 1 rfl) u2 rfl rfl)) rfl rfl (by decide) ?_
  clear st a; intro a st
  refine xseg 5 st rfl ?_
  clear st a; intro a st
  refine x_call st rfl rfl ent33 rfl rfl (by decide) ((side_ok py aa dy k dx d (by omega) (by omega) (by omega) (by omega) (by omega) (by omega) _)) ?_
  intro a1 w1 v1 hk1 hv hn st1; subst hv
  clear hn hk1 st a w; revert st1; revert a1; revert w1; intro w a st
  refine xseg 5 st rfl ?_
  clear st a; intro a st
  refine x_nil ?_
  refine x_seq ?_
  refine x_region ?_
  refine xseg 2 st rfl ?_
  clear st a; intro a st
  refine x_run (v := .agg (#[.int .i64 (i64of (sideF px aa dx (-k) dy d)), .int .i64 (i64of (sideF py aa dy k dx d))])) st (r_build st rfl rfl (bld25_0i64_1i64 _ _ _)) rfl rfl (by decide) ?_
  clear st a; intro a st
  refine x_alloc st rfl z25 rfl rfl (by decide) ?_
  clear st a; intro a w b3 st
  refine x_store st 0 rfl rfl rfl rfl (run_storeW (st.at 0 rfl) s25 rfl (by first | rfl | simp [Value.oneCell'])) rfl rfl ?_
  clear st a w; intro a w st
  replace st := st.cast rfl (show _ = ([(b3, .cells (#[.int .i64 (i64of (sideF px aa dx (-k) dy d)), .int .i64 (i64of (sideF py aa dy k dx d))]) 25 (0, 0)), (b2, .cells (#[.int .i64 0, .int .i64 0]) 25 (0, 0)), (b1, .cells (#[.int .i64 px, .int .i64 py]) 25 (0, 0))] : Hp) from rfl)
  refine x_nil ?_
  refine x_seq ?_
  have hcase : (fit64 (sideF px aa dx (-k) dy d) = true ∧ fit64 (sideF py aa dy k dx d) = true) ∨ (fit64 (sideF px aa dx (-k) dy d) = true ∧ fit64 (sideF py aa dy k dx d) = false) ∨ fit64 (sideF px aa dx (-k) dy d) = false := by cases fit64 (sideF px aa dx (-k) dy d) <;> cases fit64 (sideF py aa dy k dx d) <;> simp
  rcases hcase with ⟨hx, hy⟩ | ⟨hx, hy⟩ | hx
  · rw [hx, hy] at st
    replace st := (st.front 1 rfl).cast rfl (show _ = ([(b2, .cells (#[.int .i64 0, .int .i64 0]) 25 (0, 0)), (b3, .cells (#[.int .i64 (i64of (sideF px aa dx (-k) dy d)), .int .i64 (i64of (sideF py aa dy k dx d))]) 25 (0, 0)), (b1, .cells (#[.int .i64 px, .int .i64 py]) 25 (0, 0))] : Hp) from rfl)
    refine x_drawE (HB := ([(b2, .cells (#[.int .i64 0, .int .i64 0]) 25 (0, 0))] : Hp)) (H := ([(b3, .cells (#[.int .i64 (i64of (sideF px aa dx (-k) dy d)), .int .i64 (i64of (sideF py aa dy k dx d))]) 25 (0, 0)), (b1, .cells (#[.int .i64 px, .int .i64 py]) 25 (0, 0))] : Hp)) st [] [⟨10, 12, 45, 0, .inr 0, 25, 2⟩] [.det (.agg (#[.int .i64 (i64of (sideF px aa dx (-k) dy d)), .int .i64 (i64of (sideF py aa dy k dx d))])), .det (.bool true), .det (.bool true), .det (.bool true), .det (.bool true), .det (.bool true), .det (.agg (#[.int .i64 (i64of (sideF px aa dx (-k) dy d)), .int .i64 (i64of (sideF py aa dy k dx d))])), .det (.bool (farB (i64of (sideF px aa dx (-k) dy d)) (i64of (sideF py aa dy k dx d)))), .det (.bool (!(farB (i64of (sideF px aa dx (-k) dy d)) (i64of (sideF py aa dy k dx d))))), .det (.bool (!(farB (i64of (sideF px aa dx (-k) dy d)) (i64of (sideF py aa dy k dx d))))), .det undef, .det (.bool (!(farB (i64of (sideF px aa dx (-k) dy d)) (i64of (sideF py aa dy k dx d)))))] mixed (by kernel_rfl) (by kernel_rfl) ⟨⟨s25, fun v w h => ⟨#[.int .i64 (i64of (sideF px aa dx (-k) dy d)), .int .i64 (i64of (sideF py aa dy k dx d))], h, rfl, (by first | rfl | simp [Value.oneCell'])⟩, ⟨_, _, rfl, rfl, rfl⟩⟩, trivial⟩
      ⟨ob_w (Fi := [(18, .pointer (some ⟨b3, 0, none⟩))]) (by kernel_rfl) rfl rfl ⟨by kernel_rfl, trivial⟩ (fun a w st hk hxx => r_load st rfl rfl (run_loadW (st.at 0 rfl) r25.choose_spec.1 r25.choose_spec.2 s25 rfl)),
        ob_p (Fi := [(15, .bool true)]) (by kernel_rfl) rfl rfl ⟨by kernel_rfl, trivial⟩ rfl rfl,
        ob_p (Fi := [(46, .bool true)]) (by kernel_rfl) rfl rfl ⟨by kernel_rfl, trivial⟩ rfl rfl,
        ob_guard (u := .bool true) (c := true) (b := true) (by kernel_rfl) rfl rfl (by kernel_rfl) (by first | rfl | simp) (ob_p (Fi := [(17, .bool true)]) (by kernel_rfl) rfl rfl ⟨by kernel_rfl, trivial⟩ rfl rfl),
        ob_p (Fi := [(47, .bool true), (48, .bool true)]) (by kernel_rfl) rfl rfl ⟨by kernel_rfl, by kernel_rfl, trivial⟩ rfl rfl,
        ob_p (Fi := [(49, .bool true)]) (by kernel_rfl) rfl rfl ⟨by kernel_rfl, trivial⟩ rfl rfl,
        ob_guard (u := .agg (#[.int .i64 (i64of (sideF px aa dx (-k) dy d)), .int .i64 (i64of (sideF py aa dy k dx d))])) (c := true) (b := true) (by kernel_rfl) rfl rfl (by kernel_rfl) (by first | rfl | simp) (ob_w (Fi := [(18, .pointer (some ⟨b3, 0, none⟩))]) (by kernel_rfl) rfl rfl ⟨by kernel_rfl, trivial⟩ (fun a w st hk hxx => r_load st rfl rfl (run_loadW (st.at 0 rfl) r25.choose_spec.1 r25.choose_spec.2 s25 rfl))),
        ob_guard (u := .bool (farB (i64of (sideF px aa dx (-k) dy d)) (i64of (sideF py aa dy k dx d)))) (c := true) (b := true) (by kernel_rfl) rfl rfl (by kernel_rfl) (by first | rfl | simp) (ob_call (Fi := [(51, .agg (#[.int .i64 (i64of (sideF px aa dx (-k) dy d)), .int .i64 (i64of (sideF py aa dy k dx d))]))]) (by kernel_rfl) rfl ent12 rfl ⟨by kernel_rfl, trivial⟩ rfl (fun a w st hk hxx => (Far_ok (i64of (sideF px aa dx (-k) dy d)) (i64of (sideF py aa dy k dx d)) _)) (fun _ _ _ _ hp => ⟨hp, fun b hb => by cases hb⟩)),
        ob_guard (u := .bool (!(farB (i64of (sideF px aa dx (-k) dy d)) (i64of (sideF py aa dy k dx d))))) (c := true) (b := true) (by kernel_rfl) rfl rfl (by kernel_rfl) (by first | rfl | simp) (ob_p (Fi := [(52, .bool (farB (i64of (sideF px aa dx (-k) dy d)) (i64of (sideF py aa dy k dx d))))]) (by kernel_rfl) rfl rfl ⟨by kernel_rfl, trivial⟩ rfl rfl),
        ob_p (Fi := [(50, .bool true), (53, .bool (!(farB (i64of (sideF px aa dx (-k) dy d)) (i64of (sideF py aa dy k dx d)))))]) (by kernel_rfl) rfl rfl ⟨by kernel_rfl, by kernel_rfl, trivial⟩ rfl rfl,
        ob_store (by kernel_rfl),
        ob_p (Fi := [(54, .bool (!(farB (i64of (sideF px aa dx (-k) dy d)) (i64of (sideF py aa dy k dx d)))))]) (by kernel_rfl) rfl rfl ⟨by kernel_rfl, trivial⟩ rfl rfl, trivial⟩ ?_
    intro a1 w1 hk1 st1 he hput hback
    clear hk1 st a w; revert st1 he hput hback; revert a1; revert w1; intro w a st he hput hback
    replace st := hback ([(b2, .cells (#[.int .i64 (i64of (sideF px aa dx (-k) dy d)), .int .i64 (i64of (sideF py aa dy k dx d))]) 25 (0, 0))] : Hp) (by simp only [List.map_cons, List.map_nil]) (all1 ((hput ⟨10, 12, 45, 0, .inr 0, 25, 2⟩ (List.mem_of_getElem? (i := 0) rfl)).at (b := b2) (C := #[.int .i64 (i64of (sideF px aa dx (-k) dy d)), .int .i64 (i64of (sideF py aa dy k dx d))]) st rfl rfl) (all0))
    replace st := st.cast rfl (show _ = ([(b2, .cells (#[.int .i64 (i64of (sideF px aa dx (-k) dy d)), .int .i64 (i64of (sideF py aa dy k dx d))]) 25 (0, 0)), (b3, .cells (#[.int .i64 (i64of (sideF px aa dx (-k) dy d)), .int .i64 (i64of (sideF py aa dy k dx d))]) 25 (0, 0)), (b1, .cells (#[.int .i64 px, .int .i64 py]) 25 (0, 0))] : Hp) from rfl)
    clear hput hback
    replace st := st.pickTo (F' := [(0, .agg (#[.int .i64 px, .int .i64 py])), (1, .int .i64 aa), (2, .int .i64 k), (3, .int .i64 dx), (4, .int .i64 dy), (5, .int .i64 d), (6, .pointer (some ⟨b1, 0, none⟩)), (12, .pointer (some ⟨b2, 0, none⟩)), (13, .bool (!(farB (i64of (sideF px aa dx (-k) dy d)) (i64of (sideF py aa dy k dx d))))), (20, .pointer (some ⟨b1, 0, none⟩)), (21, .int .i64 px), (22, .int .i64 aa), (23, .int .i64 dx), (24, .int .i64 k), (25, .int .i64 (-k)), (26, .int .i64 dy), (27, .int .i64 d), (28, .tuple #[.int .i64 (i64of (sideF px aa dx (-k) dy d)), .bool true]), (19, .tuple #[.int .i64 (i64of (sideF px aa dx (-k) dy d)), .bool true]), (29, .int .i64 (i64of (sideF px aa dx (-k) dy d))), (30, .bool true), (14, .int .i64 (i64of (sideF px aa dx (-k) dy d))), (15, .bool true), (32, .pointer (some ⟨b1, 1, none⟩)), (33, .int .i64 py), (34, .int .i64 aa), (35, .int .i64 dy), (36, .int .i64 k), (37, .int .i64 dx), (38, .int .i64 d), (39, .tuple #[.int .i64 (i64of (sideF py aa dy k dx d)), .bool true]), (31, .tuple #[.int .i64 (i64of (sideF py aa dy k dx d)), .bool true]), (40, .int .i64 (i64of (sideF py aa dy k dx d))), (41, .bool true), (16, .int .i64 (i64of (sideF py aa dy k dx d))), (17, .bool true), (42, .int .i64 (i64of (sideF px aa dx (-k) dy d))), (43, .int .i64 (i64of (sideF py aa dy k dx d))), (44, .agg (#[.int .i64 (i64of (sideF px aa dx (-k) dy d)), .int .i64 (i64of (sideF py aa dy k dx d))])), (18, .pointer (some ⟨b3, 0, none⟩))]) [0, 1, 2, 3, 4, 5, 6, 12, 13, 20, 21, 22, 23, 24, 25, 26, 27, 28, 19, 29, 30, 14, 15, 32, 33, 34, 35, 36, 37, 38, 39, 31, 40, 41, 16, 17, 42, 43, 44, 18] (by kernel_rfl)
    clear he
    change wpList _ _ _ [] _ _
    refine x_nil ?_
    show NP _ _ _ _
    refine NP.normal ?_
    refine x_wpret ?_
    exact x_retp st [.agg (#[.int .i64 (i64of (sideF px aa dx (-k) dy d)), .int .i64 (i64of (sideF py aa dy k dx d))]), .bool (!(farB (i64of (sideF px aa dx (-k) dy d)) (i64of (sideF py aa dy k dx d))))] rfl ⟨⟨_, rfl, run_loadW (st.at 0 rfl) r25.choose_spec.1 r25.choose_spec.2 s25 rfl⟩, rfl, trivial⟩ rfl (by unfold placeF; simp only [hx, hy]; rfl)
  · rw [hx, hy] at st
    replace st := (st.front 1 rfl).cast rfl (show _ = ([(b2, .cells (#[.int .i64 0, .int .i64 0]) 25 (0, 0)), (b3, .cells (#[.int .i64 (i64of (sideF px aa dx (-k) dy d)), .int .i64 (i64of (sideF py aa dy k dx d))]) 25 (0, 0)), (b1, .cells (#[.int .i64 px, .int .i64 py]) 25 (0, 0))] : Hp) from rfl)
    refine x_drawE (HB := ([(b2, .cells (#[.int .i64 0, .int .i64 0]) 25 (0, 0))] : Hp)) (H := ([(b3, .cells (#[.int .i64 (i64of (sideF px aa dx (-k) dy d)), .int .i64 (i64of (sideF py aa dy k dx d))]) 25 (0, 0)), (b1, .cells (#[.int .i64 px, .int .i64 py]) 25 (0, 0))] : Hp)) st [] [⟨10, 12, 45, 0, .inr 0, 25, 2⟩] [.det (.agg (#[.int .i64 (i64of (sideF px aa dx (-k) dy d)), .int .i64 (i64of (sideF py aa dy k dx d))])), .det (.bool true), .det (.bool true), .det (.bool false), .det (.bool false), .det (.bool false), .det undef, .det undef, .det undef, .det (.bool false), .det undef, .det (.bool false)] mixed (by kernel_rfl) (by kernel_rfl) ⟨⟨s25, fun v w h => ⟨#[.int .i64 (i64of (sideF px aa dx (-k) dy d)), .int .i64 (i64of (sideF py aa dy k dx d))], h, rfl, (by first | rfl | simp [Value.oneCell'])⟩, ⟨_, _, rfl, rfl, rfl⟩⟩, trivial⟩
      ⟨ob_w (Fi := [(18, .pointer (some ⟨b3, 0, none⟩))]) (by kernel_rfl) rfl rfl ⟨by kernel_rfl, trivial⟩ (fun a w st hk hxx => r_load st rfl rfl (run_loadW (st.at 0 rfl) r25.choose_spec.1 r25.choose_spec.2 s25 rfl)),
        ob_p (Fi := [(15, .bool true)]) (by kernel_rfl) rfl rfl ⟨by kernel_rfl, trivial⟩ rfl rfl,
        ob_p (Fi := [(46, .bool true)]) (by kernel_rfl) rfl rfl ⟨by kernel_rfl, trivial⟩ rfl rfl,
        ob_guard (u := .bool false) (c := true) (b := true) (by kernel_rfl) rfl rfl (by kernel_rfl) (by first | rfl | simp) (ob_p (Fi := [(17, .bool false)]) (by kernel_rfl) rfl rfl ⟨by kernel_rfl, trivial⟩ rfl rfl),
        ob_p (Fi := [(47, .bool true), (48, .bool false)]) (by kernel_rfl) rfl rfl ⟨by kernel_rfl, by kernel_rfl, trivial⟩ rfl rfl,
        ob_p (Fi := [(49, .bool false)]) (by kernel_rfl) rfl rfl ⟨by kernel_rfl, trivial⟩ rfl rfl,
        ob_skip (c := false) (b := true) (by kernel_rfl) rfl rfl (by kernel_rfl) rfl,
        ob_skip (c := false) (b := true) (by kernel_rfl) rfl rfl (by kernel_rfl) rfl,
        ob_skip (c := false) (b := true) (by kernel_rfl) rfl rfl (by kernel_rfl) rfl,
        ob_p (Fi := [(50, .bool false), (53, undef)]) (by kernel_rfl) rfl rfl ⟨by kernel_rfl, by kernel_rfl, trivial⟩ rfl rfl,
        ob_store (by kernel_rfl),
        ob_p (Fi := [(54, .bool false)]) (by kernel_rfl) rfl rfl ⟨by kernel_rfl, trivial⟩ rfl rfl, trivial⟩ ?_
    intro a1 w1 hk1 st1 he hput hback
    clear hk1 st a w; revert st1 he hput hback; revert a1; revert w1; intro w a st he hput hback
    replace st := hback ([(b2, .cells (#[.int .i64 (i64of (sideF px aa dx (-k) dy d)), .int .i64 (i64of (sideF py aa dy k dx d))]) 25 (0, 0))] : Hp) (by simp only [List.map_cons, List.map_nil]) (all1 ((hput ⟨10, 12, 45, 0, .inr 0, 25, 2⟩ (List.mem_of_getElem? (i := 0) rfl)).at (b := b2) (C := #[.int .i64 (i64of (sideF px aa dx (-k) dy d)), .int .i64 (i64of (sideF py aa dy k dx d))]) st rfl rfl) (all0))
    replace st := st.cast rfl (show _ = ([(b2, .cells (#[.int .i64 (i64of (sideF px aa dx (-k) dy d)), .int .i64 (i64of (sideF py aa dy k dx d))]) 25 (0, 0)), (b3, .cells (#[.int .i64 (i64of (sideF px aa dx (-k) dy d)), .int .i64 (i64of (sideF py aa dy k dx d))]) 25 (0, 0)), (b1, .cells (#[.int .i64 px, .int .i64 py]) 25 (0, 0))] : Hp) from rfl)
    clear hput hback
    replace st := st.pickTo (F' := [(0, .agg (#[.int .i64 px, .int .i64 py])), (1, .int .i64 aa), (2, .int .i64 k), (3, .int .i64 dx), (4, .int .i64 dy), (5, .int .i64 d), (6, .pointer (some ⟨b1, 0, none⟩)), (12, .pointer (some ⟨b2, 0, none⟩)), (13, .bool false), (20, .pointer (some ⟨b1, 0, none⟩)), (21, .int .i64 px), (22, .int .i64 aa), (23, .int .i64 dx), (24, .int .i64 k), (25, .int .i64 (-k)), (26, .int .i64 dy), (27, .int .i64 d), (28, .tuple #[.int .i64 (i64of (sideF px aa dx (-k) dy d)), .bool true]), (19, .tuple #[.int .i64 (i64of (sideF px aa dx (-k) dy d)), .bool true]), (29, .int .i64 (i64of (sideF px aa dx (-k) dy d))), (30, .bool true), (14, .int .i64 (i64of (sideF px aa dx (-k) dy d))), (15, .bool true), (32, .pointer (some ⟨b1, 1, none⟩)), (33, .int .i64 py), (34, .int .i64 aa), (35, .int .i64 dy), (36, .int .i64 k), (37, .int .i64 dx), (38, .int .i64 d), (39, .tuple #[.int .i64 (i64of (sideF py aa dy k dx d)), .bool false]), (31, .tuple #[.int .i64 (i64of (sideF py aa dy k dx d)), .bool false]), (40, .int .i64 (i64of (sideF py aa dy k dx d))), (41, .bool false), (16, .int .i64 (i64of (sideF py aa dy k dx d))), (17, .bool false), (42, .int .i64 (i64of (sideF px aa dx (-k) dy d))), (43, .int .i64 (i64of (sideF py aa dy k dx d))), (44, .agg (#[.int .i64 (i64of (sideF px aa dx (-k) dy d)), .int .i64 (i64of (sideF py aa dy k dx d))])), (18, .pointer (some ⟨b3, 0, none⟩))]) [0, 1, 2, 3, 4, 5, 6, 12, 13, 20, 21, 22, 23, 24, 25, 26, 27, 28, 19, 29, 30, 14, 15, 32, 33, 34, 35, 36, 37, 38, 39, 31, 40, 41, 16, 17, 42, 43, 44, 18] (by kernel_rfl)
    clear he
    change wpList _ _ _ [] _ _
    refine x_nil ?_
    show NP _ _ _ _
    refine NP.normal ?_
    refine x_wpret ?_
    exact x_retp st [.agg (#[.int .i64 (i64of (sideF px aa dx (-k) dy d)), .int .i64 (i64of (sideF py aa dy k dx d))]), .bool false] rfl ⟨⟨_, rfl, run_loadW (st.at 0 rfl) r25.choose_spec.1 r25.choose_spec.2 s25 rfl⟩, rfl, trivial⟩ rfl (by unfold placeF; simp only [hx, hy]; rfl)
  · rw [hx] at st
    replace st := (st.front 1 rfl).cast rfl (show _ = ([(b2, .cells (#[.int .i64 0, .int .i64 0]) 25 (0, 0)), (b3, .cells (#[.int .i64 (i64of (sideF px aa dx (-k) dy d)), .int .i64 (i64of (sideF py aa dy k dx d))]) 25 (0, 0)), (b1, .cells (#[.int .i64 px, .int .i64 py]) 25 (0, 0))] : Hp) from rfl)
    refine x_drawE (HB := ([(b2, .cells (#[.int .i64 0, .int .i64 0]) 25 (0, 0))] : Hp)) (H := ([(b3, .cells (#[.int .i64 (i64of (sideF px aa dx (-k) dy d)), .int .i64 (i64of (sideF py aa dy k dx d))]) 25 (0, 0)), (b1, .cells (#[.int .i64 px, .int .i64 py]) 25 (0, 0))] : Hp)) st [] [⟨10, 12, 45, 0, .inr 0, 25, 2⟩] [.det (.agg (#[.int .i64 (i64of (sideF px aa dx (-k) dy d)), .int .i64 (i64of (sideF py aa dy k dx d))])), .det (.bool false), .det (.bool false), .det undef, .det (.bool false), .det (.bool false), .det undef, .det undef, .det undef, .det (.bool false), .det undef, .det (.bool false)] mixed (by kernel_rfl) (by kernel_rfl) ⟨⟨s25, fun v w h => ⟨#[.int .i64 (i64of (sideF px aa dx (-k) dy d)), .int .i64 (i64of (sideF py aa dy k dx d))], h, rfl, (by first | rfl | simp [Value.oneCell'])⟩, ⟨_, _, rfl, rfl, rfl⟩⟩, trivial⟩
      ⟨ob_w (Fi := [(18, .pointer (some ⟨b3, 0, none⟩))]) (by kernel_rfl) rfl rfl ⟨by kernel_rfl, trivial⟩ (fun a w st hk hxx => r_load st rfl rfl (run_loadW (st.at 0 rfl) r25.choose_spec.1 r25.choose_spec.2 s25 rfl)),
        ob_p (Fi := [(15, .bool false)]) (by kernel_rfl) rfl rfl ⟨by kernel_rfl, trivial⟩ rfl rfl,
        ob_p (Fi := [(46, .bool false)]) (by kernel_rfl) rfl rfl ⟨by kernel_rfl, trivial⟩ rfl rfl,
        ob_skip (c := false) (b := true) (by kernel_rfl) rfl rfl (by kernel_rfl) rfl,
        ob_p (Fi := [(47, .bool false), (48, undef)]) (by kernel_rfl) rfl rfl ⟨by kernel_rfl, by kernel_rfl, trivial⟩ rfl rfl,
        ob_p (Fi := [(49, .bool false)]) (by kernel_rfl) rfl rfl ⟨by kernel_rfl, trivial⟩ rfl rfl,
        ob_skip (c := false) (b := true) (by kernel_rfl) rfl rfl (by kernel_rfl) rfl,
        ob_skip (c := false) (b := true) (by kernel_rfl) rfl rfl (by kernel_rfl) rfl,
        ob_skip (c := false) (b := true) (by kernel_rfl) rfl rfl (by kernel_rfl) rfl,
        ob_p (Fi := [(50, .bool false), (53, undef)]) (by kernel_rfl) rfl rfl ⟨by kernel_rfl, by kernel_rfl, trivial⟩ rfl rfl,
        ob_store (by kernel_rfl),
        ob_p (Fi := [(54, .bool false)]) (by kernel_rfl) rfl rfl ⟨by kernel_rfl, trivial⟩ rfl rfl, trivial⟩ ?_
    intro a1 w1 hk1 st1 he hput hback
    clear hk1 st a w; revert st1 he hput hback; revert a1; revert w1; intro w a st he hput hback
    replace st := hback ([(b2, .cells (#[.int .i64 (i64of (sideF px aa dx (-k) dy d)), .int .i64 (i64of (sideF py aa dy k dx d))]) 25 (0, 0))] : Hp) (by simp only [List.map_cons, List.map_nil]) (all1 ((hput ⟨10, 12, 45, 0, .inr 0, 25, 2⟩ (List.mem_of_getElem? (i := 0) rfl)).at (b := b2) (C := #[.int .i64 (i64of (sideF px aa dx (-k) dy d)), .int .i64 (i64of (sideF py aa dy k dx d))]) st rfl rfl) (all0))
    replace st := st.cast rfl (show _ = ([(b2, .cells (#[.int .i64 (i64of (sideF px aa dx (-k) dy d)), .int .i64 (i64of (sideF py aa dy k dx d))]) 25 (0, 0)), (b3, .cells (#[.int .i64 (i64of (sideF px aa dx (-k) dy d)), .int .i64 (i64of (sideF py aa dy k dx d))]) 25 (0, 0)), (b1, .cells (#[.int .i64 px, .int .i64 py]) 25 (0, 0))] : Hp) from rfl)
    clear hput hback
    replace st := st.pickTo (F' := [(0, .agg (#[.int .i64 px, .int .i64 py])), (1, .int .i64 aa), (2, .int .i64 k), (3, .int .i64 dx), (4, .int .i64 dy), (5, .int .i64 d), (6, .pointer (some ⟨b1, 0, none⟩)), (12, .pointer (some ⟨b2, 0, none⟩)), (13, .bool false), (20, .pointer (some ⟨b1, 0, none⟩)), (21, .int .i64 px), (22, .int .i64 aa), (23, .int .i64 dx), (24, .int .i64 k), (25, .int .i64 (-k)), (26, .int .i64 dy), (27, .int .i64 d), (28, .tuple #[.int .i64 (i64of (sideF px aa dx (-k) dy d)), .bool false]), (19, .tuple #[.int .i64 (i64of (sideF px aa dx (-k) dy d)), .bool false]), (29, .int .i64 (i64of (sideF px aa dx (-k) dy d))), (30, .bool false), (14, .int .i64 (i64of (sideF px aa dx (-k) dy d))), (15, .bool false), (32, .pointer (some ⟨b1, 1, none⟩)), (33, .int .i64 py), (34, .int .i64 aa), (35, .int .i64 dy), (36, .int .i64 k), (37, .int .i64 dx), (38, .int .i64 d), (39, .tuple #[.int .i64 (i64of (sideF py aa dy k dx d)), .bool (fit64 (sideF py aa dy k dx d))]), (31, .tuple #[.int .i64 (i64of (sideF py aa dy k dx d)), .bool (fit64 (sideF py aa dy k dx d))]), (40, .int .i64 (i64of (sideF py aa dy k dx d))), (41, .bool (fit64 (sideF py aa dy k dx d))), (16, .int .i64 (i64of (sideF py aa dy k dx d))), (17, .bool (fit64 (sideF py aa dy k dx d))), (42, .int .i64 (i64of (sideF px aa dx (-k) dy d))), (43, .int .i64 (i64of (sideF py aa dy k dx d))), (44, .agg (#[.int .i64 (i64of (sideF px aa dx (-k) dy d)), .int .i64 (i64of (sideF py aa dy k dx d))])), (18, .pointer (some ⟨b3, 0, none⟩))]) [0, 1, 2, 3, 4, 5, 6, 12, 13, 20, 21, 22, 23, 24, 25, 26, 27, 28, 19, 29, 30, 14, 15, 32, 33, 34, 35, 36, 37, 38, 39, 31, 40, 41, 16, 17, 42, 43, 44, 18] (by kernel_rfl)
    clear he
    change wpList _ _ _ [] _ _
    refine x_nil ?_
    show NP _ _ _ _
    refine NP.normal ?_
    refine x_wpret ?_
    exact x_retp st [.agg (#[.int .i64 (i64of (sideF px aa dx (-k) dy d)), .int .i64 (i64of (sideF py aa dy k dx d))]), .bool false] rfl ⟨⟨_, rfl, run_loadW (st.at 0 rfl) r25.choose_spec.1 r25.choose_spec.2 s25 rfl⟩, rfl, trivial⟩ rfl (by unfold placeF; simp only [hx]; rfl)

theorem mD_nat {px py qx qy : Int} (h : 0 ≤ mD px py qx qy ∧ mD px py qx qy ≤ 140737488355328) (h2 : 1 ≤ mD px py qx qy) : 0 < mD px py qx qy ∧ mD px py qx qy ≤ 2 ^ 61 := by omega
theorem place1_ok {px py r qx qy s : Int} (hp : farB px py = false) (hq : farB qx qy = false) (hr : rngB r = true) (hs : rngB s = true) (hd : 1 ≤ mD px py qx qy) (w0 : World) :
    Fn Tryd.prog 19 [.agg #[.int .i64 px, .int .i64 py], .int .i64 (mA px py r qx qy s), .int .i64 (mK px py r qx qy s), .int .i64 (qx - px), .int .i64 (qy - py), .int .i64 (mD px py qx qy)] w0 []
      (fun v _ => v = .tuple #[.agg #[.int .i64 (mP1 px py r qx qy s).x, .int .i64 (mP1 px py r qx qy s).y], .bool (mP1 px py r qx qy s).ok]) := by
  have h1 := farB_no hp
  have h2 := mD_bd hp hq
  have h3 := mA_bd (qx := qx) (qy := qy) hp hq hr hs
  have h4 := mK_bd (qx := qx) (qy := qy) hp hq hr hs
  exact place_ok px py _ _ _ _ _ (by omega) (by omega) (by omega) (by omega) (by omega) (by omega) (by omega) w0
theorem place2_ok {px py r qx qy s : Int} (hp : farB px py = false) (hq : farB qx qy = false) (hr : rngB r = true) (hs : rngB s = true) (hd : 1 ≤ mD px py qx qy) (w0 : World) :
    Fn Tryd.prog 19 [.agg #[.int .i64 px, .int .i64 py], .int .i64 (mA px py r qx qy s), .int .i64 (-mK px py r qx qy s), .int .i64 (qx - px), .int .i64 (qy - py), .int .i64 (mD px py qx qy)] w0 []
      (fun v _ => v = .tuple #[.agg #[.int .i64 (mP2 px py r qx qy s).x, .int .i64 (mP2 px py r qx qy s).y], .bool (mP2 px py r qx qy s).ok]) := by
  have h1 := farB_no hp
  have h2 := mD_bd hp hq
  have h3 := mA_bd (qx := qx) (qy := qy) hp hq hr hs
  have h4 := mK_bd (qx := qx) (qy := qy) hp hq hr hs
  exact place_ok px py _ _ _ _ _ (by omega) (by omega) (by omega) (by omega) (by omega) (by omega) (by omega) w0
theorem wd_rest {px py r qx qy s : Int} (h0 : ¬ mRest px py r qx qy s < 0) (hp : farB px py = false) (hq : farB qx qy = false) (hr : rngB r = true) (hs : rngB s = true) :
    IntKind.i64.wrap ((isq (limb (mRest px py r qx qy s) 1 * BB + limb (mRest px py r qx qy s) 0) : Nat) : Int) = mK px py r qx qy s := by
  have h1 := (mRest_bd (qx := qx) (qy := qy) hp hq hr hs).1
  have h4 := mK_bd (qx := qx) (qy := qy) hp hq hr hs
  rw [limb_two (by omega) (by omega)]
  exact cvi64 (z := mK px py r qx qy s) (by omega)

set_option maxRecDepth 20000 in
set_option maxHeartbeats 1000000 in
theorem Meet_ok  (px py r qx qy s base : Int) (w0 : World) :
    Fn Tryd.prog 6 [.agg (#[.int .i64 px, .int .i64 py]), .int .i64 r, .agg (#[.int .i64 qx, .int .i64 qy]), .int .i64 s, .int .i64 base] w0 [] (fun v w' => ∃ u, ErrV w0 w' ⟨#[99, 105, 114, 99, 108, 101]⟩ (meetE px py r qx qy s base) u ∧ v = .tuple #[.agg #[.int .i64 (if meetE px py r qx qy s base = 0 then (mP1 px py r qx qy s).x else 0), .int .i64 (if meetE px py r qx qy s base = 0 then (mP1 px py r qx qy s).y else 0)], .agg #[.int .i64 (if meetE px py r qx qy s base = 0 then (mP2 px py r qx qy s).x else 0), .int .i64 (if meetE px py r qx qy s base = 0 then (mP2 px py r qx qy s).y else 0)], u]) := by
  refine x_enter' (n := 141) Tryd.func6 rfl rfl (Nat.le_of_ble_eq_true rfl) fun a w st => ?_
  refine x_seq ?_
  refine x_region ?_
  refine x_box st rfl rfl rfl rfl (by decide) ?_
  clear st a; intro a w b1 st
  refine x_box st rfl rfl rfl rfl (by decide) ?_
  clear st a; intro a w b2 st
  refine x_alloc st rfl z25 rfl rfl (by decide) ?_
  clear st a; intro a w b3 st
  refine x_alloc st rfl z25 rfl rfl (by decide) ?_
  clear st a; intro a w b4 st
  refine xseg 1 st rfl ?_
  clear st a; intro a st
  refine x_nil ?_
  refine x_seq ?_
  refine x_region ?_
  refine x_run (v := .agg (#[.int .i64 0, .int .i64 0])) st (r_build0 bz25 rfl) rfl rfl (by decide) ?_
  clear st a; intro a st
  refine x_alloc st rfl z25 rfl rfl (by decide) ?_
  clear st a; intro a w b5 st
  refine x_store st 0 rfl rfl rfl rfl (run_storeW (st.at 0 rfl) s25 rfl (by first | rfl | simp [Value.oneCell'])) rfl rfl ?_
  clear st a w; intro a w st
  replace st := st.cast rfl (show _ = ([(b5, .cells (#[.int .i64 0, .int .i64 0]) 25 (0, 0)), (b4, .cells (#[.int .i64 0, .int .i64 0]) 25 (0, 0)), (b3, .cells (#[.int .i64 0, .int .i64 0]) 25 (0, 0)), (b2, .cells (#[.int .i64 qx, .int .i64 qy]) 25 (0, 0)), (b1, .cells (#[.int .i64 px, .int .i64 py]) 25 (0, 0))] : Hp) from rfl)
  refine x_nil ?_
  refine x_seq ?_
  refine x_seq ?_
  refine x_region ?_
  refine x_run (v := .agg (#[.int .i64 px, .int .i64 py])) st (r_load st rfl rfl (run_loadW (st.at 4 rfl) r25.choose_spec.1 r25.choose_spec.2 s25 rfl)) rfl rfl (by decide) ?_
  clear st a; intro a st
  refine x_call st rfl rfl ent12 rfl rfl (by decide) ((Far_ok px py _)) ?_
  intro a1 w1 v1 hk1 hv hn st1; subst hv
  clear hn hk1 st a w; revert st1; revert a1; revert w1; intro w a st
  refine xseg 1 st rfl ?_
  clear st a; intro a st
  rcases Bool.eq_false_or_eq_true (farB px py) with hg2_2 | hg2_2
  · rw [hg2_2] at st
    refine x_skip st (b := false) (c := true) rfl rfl rfl (by decide) rfl (by decide) ?_
    clear st a; intro a st
    refine x_skip st (b := false) (c := true) rfl rfl rfl (by decide) rfl (by decide) ?_
    clear st a; intro a st
    refine xseg 2 st rfl ?_
    clear st a; intro a st
    refine x_skip st (b := false) (c := true) rfl rfl rfl (by decide) rfl (by decide) ?_
    clear st a; intro a st
    refine x_skip st (b := false) (c := true) rfl rfl rfl (by decide) rfl (by decide) ?_
    clear st a; intro a st
    refine x_skip st (b := false) (c := true) rfl rfl rfl (by decide) rfl (by decide) ?_
    clear st a; intro a st
    refine x_skip st (b := false) (c := true) rfl rfl rfl (by decide) rfl (by decide) ?_
    clear st a; intro a st
    refine x_skip st (b := false) (c := true) rfl rfl rfl (by decide) rfl (by decide) ?_
    clear st a; intro a st
    refine xseg 2 st rfl ?_
    clear st a; intro a st
    refine x_skip st (b := false) (c := true) rfl rfl rfl (by decide) rfl (by decide) ?_
    clear st a; intro a st
    refine x_skip st (b := false) (c := true) rfl rfl rfl (by decide) rfl (by decide) ?_
    clear st a; intro a st
    refine xseg 2 st rfl ?_
    clear st a; intro a st
    refine x_skip st (b := false) (c := true) rfl rfl rfl (by decide) rfl (by decide) ?_
    clear st a; intro a st
    refine x_skip st (b := false) (c := true) rfl rfl rfl (by decide) rfl (by decide) ?_
    clear st a; intro a st
    refine xseg 1 st rfl ?_
    clear st a; intro a st
    refine x_nil ?_
    refine x_condT st rfl ?_
    refine x_seq ?_
    have he := meet27 (show mBad px py r qx qy s base = true from by unfold mBad; (try rw [hg2_2]); (try rw [hg2_6]); (try rw [hg2_13]); (try rw [hg2_17]); first | (simp; done) | (simp; omega))
    replace st := (st.front 1 rfl).cast rfl (show _ = ([(b4, .cells (#[.int .i64 0, .int .i64 0]) 25 (0, 0)), (b5, .cells (#[.int .i64 0, .int .i64 0]) 25 (0, 0)), (b3, .cells (#[.int .i64 0, .int .i64 0]) 25 (0, 0)), (b2, .cells (#[.int .i64 qx, .int .i64 qy]) 25 (0, 0)), (b1, .cells (#[.int .i64 px, .int .i64 py]) 25 (0, 0))] : Hp) from rfl)
    replace st := (st.front 2 rfl).cast rfl (show _ = ([(b3, .cells (#[.int .i64 0, .int .i64 0]) 25 (0, 0)), (b4, .cells (#[.int .i64 0, .int .i64 0]) 25 (0, 0)), (b5, .cells (#[.int .i64 0, .int .i64 0]) 25 (0, 0)), (b2, .cells (#[.int .i64 qx, .int .i64 qy]) 25 (0, 0)), (b1, .cells (#[.int .i64 px, .int .i64 py]) 25 (0, 0))] : Hp) from rfl)
    refine x_drawE (HB := ([(b3, .cells (#[.int .i64 0, .int .i64 0]) 25 (0, 0)), (b4, .cells (#[.int .i64 0, .int .i64 0]) 25 (0, 0))] : Hp)) (H := ([(b5, .cells (#[.int .i64 0, .int .i64 0]) 25 (0, 0)), (b2, .cells (#[.int .i64 qx, .int .i64 qy]) 25 (0, 0)), (b1, .cells (#[.int .i64 px, .int .i64 py]) 25 (0, 0))] : Hp)) st [5] [⟨3, 10, 47, 0, .inr 0, 25, 2⟩, ⟨4, 11, 48, 1, .inr 1, 25, 2⟩] [.det (.agg (#[.int .i64 0, .int .i64 0])), .det (.agg (#[.int .i64 0, .int .i64 0])), .spec (.ifc 80 (errObj (⟨#[99, 105, 114, 99, 108, 101]⟩) 27)), .det undef, .det undef, .det undef] mixed (by kernel_rfl) (by kernel_rfl) ⟨⟨s25, fun v w h => ⟨#[.int .i64 0, .int .i64 0], h, rfl, (by first | rfl | simp [Value.oneCell'])⟩, ⟨_, _, rfl, rfl, rfl⟩⟩, ⟨s25, fun v w h => ⟨#[.int .i64 0, .int .i64 0], h, rfl, (by first | rfl | simp [Value.oneCell'])⟩, ⟨_, _, rfl, rfl, rfl⟩⟩, trivial⟩
      ⟨ob_w (Fi := [(13, .pointer (some ⟨b5, 0, none⟩))]) (by kernel_rfl) rfl rfl ⟨by kernel_rfl, trivial⟩ (fun a w st hk hxx => r_load st rfl rfl (run_loadW (st.at 0 rfl) r25.choose_spec.1 r25.choose_spec.2 s25 rfl)),
        ob_w (Fi := [(13, .pointer (some ⟨b5, 0, none⟩))]) (by kernel_rfl) rfl rfl ⟨by kernel_rfl, trivial⟩ (fun a w st hk hxx => r_load st rfl rfl (run_loadW (st.at 0 rfl) r25.choose_spec.1 r25.choose_spec.2 s25 rfl)),
        ob_callW (Fi := []) (by kernel_rfl) rfl ent14 rfl trivial rfl (fun a w st hk hxx => (bad_circle 27 _)) ifc_spec,
        ob_store (by kernel_rfl),
        ob_store (by kernel_rfl),
        ob_store (by kernel_rfl), trivial⟩ ?_
    intro a1 w1 hk1 st1 he hput hback
    clear hk1 st a w; revert st1 he hput hback; revert a1; revert w1; intro w a st he hput hback
    replace st := hback ([(b3, .cells (#[.int .i64 0, .int .i64 0]) 25 (0, 0)), (b4, .cells (#[.int .i64 0, .int .i64 0]) 25 (0, 0))] : Hp) (by simp only [List.map_cons, List.map_nil]) (all1 ((hput ⟨3, 10, 47, 0, .inr 0, 25, 2⟩ (List.mem_of_getElem? (i := 0) rfl)).at (b := b3) (C := #[.int .i64 0, .int .i64 0]) st rfl rfl) (all1 ((hput ⟨4, 11, 48, 1, .inr 1, 25, 2⟩ (List.mem_of_getElem? (i := 1) rfl)).at (b := b4) (C := #[.int .i64 0, .int .i64 0]) st rfl rfl) (all0)))
    replace st := st.cast rfl (show _ = ([(b3, .cells (#[.int .i64 0, .int .i64 0]) 25 (0, 0)), (b4, .cells (#[.int .i64 0, .int .i64 0]) 25 (0, 0)), (b5, .cells (#[.int .i64 0, .int .i64 0]) 25 (0, 0)), (b2, .cells (#[.int .i64 qx, .int .i64 qy]) 25 (0, 0)), (b1, .cells (#[.int .i64 px, .int .i64 py]) 25 (0, 0))] : Hp) from rfl)
    clear hput hback
    replace st := st.pickTo (F' := [(0, .agg (#[.int .i64 px, .int .i64 py])), (1, .int .i64 r), (2, .agg (#[.int .i64 qx, .int .i64 qy])), (3, .int .i64 s), (4, .int .i64 base), (5, .pointer (some ⟨b1, 0, none⟩)), (7, .pointer (some ⟨b2, 0, none⟩)), (10, .pointer (some ⟨b3, 0, none⟩)), (11, .pointer (some ⟨b4, 0, none⟩)), (12, .nilIface), (25, .agg (#[.int .i64 0, .int .i64 0])), (13, .pointer (some ⟨b5, 0, none⟩)), (26, .agg (#[.int .i64 px, .int .i64 py])), (27, .bool true), (28, .bool true), (29, undef), (30, undef), (31, .bool true), (32, .bool true), (33, undef), (34, undef), (35, undef), (36, undef), (37, undef), (38, .bool true), (39, .bool true), (40, undef), (41, undef), (42, .bool true), (43, .bool true), (44, undef), (45, undef), (46, .bool true)]) [0, 1, 2, 3, 4, 5, 7, 10, 11, 12, 25, 13, 26, 27, 28, 29, 30, 31, 32, 33, 34, 35, 36, 37, 38, 39, 40, 41, 42, 43, 44, 45, 46] (by kernel_rfl)
    obtain ⟨b6, hvb6, hbb6, hnb6⟩ := he.ifc 2 rfl rfl
    replace st := (st.know hvb6).add hbb6 hnb6
    clear hvb6 hbb6 hnb6
    clear he
    change wpList _ _ _ [_] _ _
    refine xseg 1 st rfl ?_
    clear st a; intro a st
    refine x_nil ?_
    show NP _ _ _ _
    refine NP.normal ?_
    refine x_wpret ?_
    refine x_thenRet ?_
    exact x_retp st [.agg (#[.int .i64 0, .int .i64 0]), .agg (#[.int .i64 0, .int .i64 0]), .iface 80 (.pointer (some ⟨b6, 0, none⟩))] rfl ⟨⟨_, rfl, run_loadW (st.at 1 rfl) r25.choose_spec.1 r25.choose_spec.2 s25 rfl⟩, ⟨_, rfl, run_loadW (st.at 2 rfl) r25.choose_spec.1 r25.choose_spec.2 s25 rfl⟩, rfl, trivial⟩ rfl (⟨_, .inr ⟨by rw [he]; decide, _, rfl, by rw [he]; exact st.at 0 rfl, (st.own _ (List.mem_of_getElem? (i := 0) rfl)).resolve_left (by simp)⟩, by rw [he]; rfl⟩)
  · rw [hg2_2] at st
    refine x_unguard st (b := false) rfl rfl rfl ?_
    refine x_run (v := .agg (#[.int .i64 qx, .int .i64 qy])) st (r_load st rfl rfl (run_loadW (st.at 3 rfl) r25.choose_spec.1 r25.choose_spec.2 s25 rfl)) rfl rfl (by decide) ?_
    clear st a; intro a st
    refine x_unguard st (b := false) rfl rfl rfl ?_
    refine x_call st rfl rfl ent12 rfl rfl (by decide) ((Far_ok qx qy _)) ?_
    intro a1 w1 v1 hk1 hv hn st1; subst hv
    clear hn hk1 st a w; revert st1; revert a1; revert w1; intro w a st
    refine xseg 2 st rfl ?_
    clear st a; intro a st
    rcases Bool.eq_false_or_eq_true (farB qx qy) with hg2_6 | hg2_6
    · rw [hg2_6] at st
      refine x_skip st (b := false) (c := true) rfl rfl rfl (by decide) rfl (by decide) ?_
      clear st a; intro a st
      refine x_skip st (b := false) (c := true) rfl rfl rfl (by decide) rfl (by decide) ?_
      clear st a; intro a st
      refine x_skip st (b := false) (c := true) rfl rfl rfl (by decide) rfl (by decide) ?_
      clear st a; intro a st
      refine x_skip st (b := false) (c := true) rfl rfl rfl (by decide) rfl (by decide) ?_
      clear st a; intro a st
      refine x_skip st (b := false) (c := true) rfl rfl rfl (by decide) rfl (by decide) ?_
      clear st a; intro a st
      refine xseg 2 st rfl ?_
      clear st a; intro a st
      refine x_skip st (b := false) (c := true) rfl rfl rfl (by decide) rfl (by decide) ?_
      clear st a; intro a st
      refine x_skip st (b := false) (c := true) rfl rfl rfl (by decide) rfl (by decide) ?_
      clear st a; intro a st
      refine xseg 2 st rfl ?_
      clear st a; intro a st
      refine x_skip st (b := false) (c := true) rfl rfl rfl (by decide) rfl (by decide) ?_
      clear st a; intro a st
      refine x_skip st (b := false) (c := true) rfl rfl rfl (by decide) rfl (by decide) ?_
      clear st a; intro a st
      refine xseg 1 st rfl ?_
      clear st a; intro a st
      refine x_nil ?_
      refine x_condT st rfl ?_
      refine x_seq ?_
      have he := meet27 (show mBad px py r qx qy s base = true from by unfold mBad; (try rw [hg2_2]); (try rw [hg2_6]); (try rw [hg2_13]); (try rw [hg2_17]); first | (simp; done) | (simp; omega))
      replace st := (st.front 1 rfl).cast rfl (show _ = ([(b4, .cells (#[.int .i64 0, .int .i64 0]) 25 (0, 0)), (b5, .cells (#[.int .i64 0, .int .i64 0]) 25 (0, 0)), (b3, .cells (#[.int .i64 0, .int .i64 0]) 25 (0, 0)), (b2, .cells (#[.int .i64 qx, .int .i64 qy]) 25 (0, 0)), (b1, .cells (#[.int .i64 px, .int .i64 py]) 25 (0, 0))] : Hp) from rfl)
      replace st := (st.front 2 rfl).cast rfl (show _ = ([(b3, .cells (#[.int .i64 0, .int .i64 0]) 25 (0, 0)), (b4, .cells (#[.int .i64 0, .int .i64 0]) 25 (0, 0)), (b5, .cells (#[.int .i64 0, .int .i64 0]) 25 (0, 0)), (b2, .cells (#[.int .i64 qx, .int .i64 qy]) 25 (0, 0)), (b1, .cells (#[.int .i64 px, .int .i64 py]) 25 (0, 0))] : Hp) from rfl)
      refine x_drawE (HB := ([(b3, .cells (#[.int .i64 0, .int .i64 0]) 25 (0, 0)), (b4, .cells (#[.int .i64 0, .int .i64 0]) 25 (0, 0))] : Hp)) (H := ([(b5, .cells (#[.int .i64 0, .int .i64 0]) 25 (0, 0)), (b2, .cells (#[.int .i64 qx, .int .i64 qy]) 25 (0, 0)), (b1, .cells (#[.int .i64 px, .int .i64 py]) 25 (0, 0))] : Hp)) st [5] [⟨3, 10, 47, 0, .inr 0, 25, 2⟩, ⟨4, 11, 48, 1, .inr 1, 25, 2⟩] [.det (.agg (#[.int .i64 0, .int .i64 0])), .det (.agg (#[.int .i64 0, .int .i64 0])), .spec (.ifc 80 (errObj (⟨#[99, 105, 114, 99, 108, 101]⟩) 27)), .det undef, .det undef, .det undef] mixed (by kernel_rfl) (by kernel_rfl) ⟨⟨s25, fun v w h => ⟨#[.int .i64 0, .int .i64 0], h, rfl, (by first | rfl | simp [Value.oneCell'])⟩, ⟨_, _, rfl, rfl, rfl⟩⟩, ⟨s25, fun v w h => ⟨#[.int .i64 0, .int .i64 0], h, rfl, (by first | rfl | simp [Value.oneCell'])⟩, ⟨_, _, rfl, rfl, rfl⟩⟩, trivial⟩
        ⟨ob_w (Fi := [(13, .pointer (some ⟨b5, 0, none⟩))]) (by kernel_rfl) rfl rfl ⟨by kernel_rfl, trivial⟩ (fun a w st hk hxx => r_load st rfl rfl (run_loadW (st.at 0 rfl) r25.choose_spec.1 r25.choose_spec.2 s25 rfl)),
          ob_w (Fi := [(13, .pointer (some ⟨b5, 0, none⟩))]) (by kernel_rfl) rfl rfl ⟨by kernel_rfl, trivial⟩ (fun a w st hk hxx => r_load st rfl rfl (run_loadW (st.at 0 rfl) r25.choose_spec.1 r25.choose_spec.2 s25 rfl)),
          ob_callW (Fi := []) (by kernel_rfl) rfl ent14 rfl trivial rfl (fun a w st hk hxx => (bad_circle 27 _)) ifc_spec,
          ob_store (by kernel_rfl),
          ob_store (by kernel_rfl),
          ob_store (by kernel_rfl), trivial⟩ ?_
      intro a1 w1 hk1 st1 he hput hback
      clear hk1 st a w; revert st1 he hput hback; revert a1; revert w1; intro w a st he hput hback
      replace st := hback ([(b3, .cells (#[.int .i64 0, .int .i64 0]) 25 (0, 0)), (b4, .cells (#[.int .i64 0, .int .i64 0]) 25 (0, 0))] : Hp) (by simp only [List.map_cons, List.map_nil]) (all1 ((hput ⟨3, 10, 47, 0, .inr 0, 25, 2⟩ (List.mem_of_getElem? (i := 0) rfl)).at (b := b3) (C := #[.int .i64 0, .int .i64 0]) st rfl rfl) (all1 ((hput ⟨4, 11, 48, 1, .inr 1, 25, 2⟩ (List.mem_of_getElem? (i := 1) rfl)).at (b := b4) (C := #[.int .i64 0, .int .i64 0]) st rfl rfl) (all0)))
      replace st := st.cast rfl (show _ = ([(b3, .cells (#[.int .i64 0, .int .i64 0]) 25 (0, 0)), (b4, .cells (#[.int .i64 0, .int .i64 0]) 25 (0, 0)), (b5, .cells (#[.int .i64 0, .int .i64 0]) 25 (0, 0)), (b2, .cells (#[.int .i64 qx, .int .i64 qy]) 25 (0, 0)), (b1, .cells (#[.int .i64 px, .int .i64 py]) 25 (0, 0))] : Hp) from rfl)
      clear hput hback
      replace st := st.pickTo (F' := [(0, .agg (#[.int .i64 px, .int .i64 py])), (1, .int .i64 r), (2, .agg (#[.int .i64 qx, .int .i64 qy])), (3, .int .i64 s), (4, .int .i64 base), (5, .pointer (some ⟨b1, 0, none⟩)), (7, .pointer (some ⟨b2, 0, none⟩)), (10, .pointer (some ⟨b3, 0, none⟩)), (11, .pointer (some ⟨b4, 0, none⟩)), (12, .nilIface), (25, .agg (#[.int .i64 0, .int .i64 0])), (13, .pointer (some ⟨b5, 0, none⟩)), (26, .agg (#[.int .i64 px, .int .i64 py])), (27, .bool false), (28, .bool false), (29, .agg (#[.int .i64 qx, .int .i64 qy])), (30, .bool true), (31, .bool true), (32, .bool true), (33, undef), (34, undef), (35, undef), (36, undef), (37, undef), (38, .bool true), (39, .bool true), (40, undef), (41, undef), (42, .bool true), (43, .bool true), (44, undef), (45, undef), (46, .bool true)]) [0, 1, 2, 3, 4, 5, 7, 10, 11, 12, 25, 13, 26, 27, 28, 29, 30, 31, 32, 33, 34, 35, 36, 37, 38, 39, 40, 41, 42, 43, 44, 45, 46] (by kernel_rfl)
      obtain ⟨b7, hvb7, hbb7, hnb7⟩ := he.ifc 2 rfl rfl
      replace st := (st.know hvb7).add hbb7 hnb7
      clear hvb7 hbb7 hnb7
      clear he
      change wpList _ _ _ [_] _ _
      refine xseg 1 st rfl ?_
      clear st a; intro a st
      refine x_nil ?_
      show NP _ _ _ _
      refine NP.normal ?_
      refine x_wpret ?_
      refine x_thenRet ?_
      exact x_retp st [.agg (#[.int .i64 0, .int .i64 0]), .agg (#[.int .i64 0, .int .i64 0]), .iface 80 (.pointer (some ⟨b7, 0, none⟩))] rfl ⟨⟨_, rfl, run_loadW (st.at 1 rfl) r25.choose_spec.1 r25.choose_spec.2 s25 rfl⟩, ⟨_, rfl, run_loadW (st.at 2 rfl) r25.choose_spec.1 r25.choose_spec.2 s25 rfl⟩, rfl, trivial⟩ rfl (⟨_, .inr ⟨by rw [he]; decide, _, rfl, by rw [he]; exact st.at 0 rfl, (st.own _ (List.mem_of_getElem? (i := 0) rfl)).resolve_left (by simp)⟩, by rw [he]; rfl⟩)
    · rw [hg2_6] at st
      refine x_unguard st (b := false) rfl rfl rfl ?_
      refine xseg 1 st rfl ?_
      clear st a; intro a st
      refine x_unguard st (b := false) rfl rfl rfl ?_
      refine xseg 1 st rfl ?_
      clear st a; intro a st
      refine x_unguard st (b := false) rfl rfl rfl ?_
      refine x_bslice st rfl rfl (bsl31_2_2 _ _) rfl rfl (by decide) ?_
      clear st a; intro a w b8 st
      refine x_unguard st (b := false) rfl rfl rfl ?_
      refine x_call st rfl rfl ent13 rfl rfl (by decide) ((ranges2_ok (st.at 0 rfl))) ?_
      intro a1 w1 v1 hk1 hv hn st1; subst hv
      clear hn hk1 st a w; revert st1; revert a1; revert w1; intro w a st
      refine x_unguard st (b := false) rfl rfl rfl ?_
      refine xseg 3 st rfl ?_
      clear st a; intro a st
      rcases Bool.eq_false_or_eq_true (!(rngB r && rngB s)) with hg2_13 | hg2_13
      · rw [hg2_13] at st
        refine x_skip st (b := false) (c := true) rfl rfl rfl (by decide) rfl (by decide) ?_
        clear st a; intro a st
        refine x_skip st (b := false) (c := true) rfl rfl rfl (by decide) rfl (by decide) ?_
        clear st a; intro a st
        refine xseg 2 st rfl ?_
        clear st a; intro a st
        refine x_skip st (b := false) (c := true) rfl rfl rfl (by decide) rfl (by decide) ?_
        clear st a; intro a st
        refine x_skip st (b := false) (c := true) rfl rfl rfl (by decide) rfl (by decide) ?_
        clear st a; intro a st
        refine xseg 1 st rfl ?_
        clear st a; intro a st
        refine x_nil ?_
        refine x_condT st rfl ?_
        refine x_seq ?_
        have he := meet27 (show mBad px py r qx qy s base = true from by unfold mBad; (try rw [hg2_2]); (try rw [hg2_6]); (try rw [hg2_13]); (try rw [hg2_17]); first | (simp; done) | (simp; omega))
        replace st := (st.front 2 rfl).cast rfl (show _ = ([(b4, .cells (#[.int .i64 0, .int .i64 0]) 25 (0, 0)), (b8, .cells (#[.int .i64 r, .int .i64 s]) 2 (0, 0)), (b5, .cells (#[.int .i64 0, .int .i64 0]) 25 (0, 0)), (b3, .cells (#[.int .i64 0, .int .i64 0]) 25 (0, 0)), (b2, .cells (#[.int .i64 qx, .int .i64 qy]) 25 (0, 0)), (b1, .cells (#[.int .i64 px, .int .i64 py]) 25 (0, 0))] : Hp) from rfl)
        replace st := (st.front 3 rfl).cast rfl (show _ = ([(b3, .cells (#[.int .i64 0, .int .i64 0]) 25 (0, 0)), (b4, .cells (#[.int .i64 0, .int .i64 0]) 25 (0, 0)), (b8, .cells (#[.int .i64 r, .int .i64 s]) 2 (0, 0)), (b5, .cells (#[.int .i64 0, .int .i64 0]) 25 (0, 0)), (b2, .cells (#[.int .i64 qx, .int .i64 qy]) 25 (0, 0)), (b1, .cells (#[.int .i64 px, .int .i64 py]) 25 (0, 0))] : Hp) from rfl)
        refine x_drawE (HB := ([(b3, .cells (#[.int .i64 0, .int .i64 0]) 25 (0, 0)), (b4, .cells (#[.int .i64 0, .int .i64 0]) 25 (0, 0))] : Hp)) (H := ([(b8, .cells (#[.int .i64 r, .int .i64 s]) 2 (0, 0)), (b5, .cells (#[.int .i64 0, .int .i64 0]) 25 (0, 0)), (b2, .cells (#[.int .i64 qx, .int .i64 qy]) 25 (0, 0)), (b1, .cells (#[.int .i64 px, .int .i64 py]) 25 (0, 0))] : Hp)) st [5] [⟨3, 10, 47, 0, .inr 0, 25, 2⟩, ⟨4, 11, 48, 1, .inr 1, 25, 2⟩] [.det (.agg (#[.int .i64 0, .int .i64 0])), .det (.agg (#[.int .i64 0, .int .i64 0])), .spec (.ifc 80 (errObj (⟨#[99, 105, 114, 99, 108, 101]⟩) 27)), .det undef, .det undef, .det undef] mixed (by kernel_rfl) (by kernel_rfl) ⟨⟨s25, fun v w h => ⟨#[.int .i64 0, .int .i64 0], h, rfl, (by first | rfl | simp [Value.oneCell'])⟩, ⟨_, _, rfl, rfl, rfl⟩⟩, ⟨s25, fun v w h => ⟨#[.int .i64 0, .int .i64 0], h, rfl, (by first | rfl | simp [Value.oneCell'])⟩, ⟨_, _, rfl, rfl, rfl⟩⟩, trivial⟩
          ⟨ob_w (Fi := [(13, .pointer (some ⟨b5, 0, none⟩))]) (by kernel_rfl) rfl rfl ⟨by kernel_rfl, trivial⟩ (fun a w st hk hxx => r_load st rfl rfl (run_loadW (st.at 1 rfl) r25.choose_spec.1 r25.choose_spec.2 s25 rfl)),
            ob_w (Fi := [(13, .pointer (some ⟨b5, 0, none⟩))]) (by kernel_rfl) rfl rfl ⟨by kernel_rfl, trivial⟩ (fun a w st hk hxx => r_load st rfl rfl (run_loadW (st.at 1 rfl) r25.choose_spec.1 r25.choose_spec.2 s25 rfl)),
            ob_callW (Fi := []) (by kernel_rfl) rfl ent14 rfl trivial rfl (fun a w st hk hxx => (bad_circle 27 _)) ifc_spec,
            ob_store (by kernel_rfl),
            ob_store (by kernel_rfl),
            ob_store (by kernel_rfl), trivial⟩ ?_
        intro a1 w1 hk1 st1 he hput hback
        clear hk1 st a w; revert st1 he hput hback; revert a1; revert w1; intro w a st he hput hback
        replace st := hback ([(b3, .cells (#[.int .i64 0, .int .i64 0]) 25 (0, 0)), (b4, .cells (#[.int .i64 0, .int .i64 0]) 25 (0, 0))] : Hp) (by simp only [List.map_cons, List.map_nil]) (all1 ((hput ⟨3, 10, 47, 0, .inr 0, 25, 2⟩ (List.mem_of_getElem? (i := 0) rfl)).at (b := b3) (C := #[.int .i64 0, .int .i64 0]) st rfl rfl) (all1 ((hput ⟨4, 11, 48, 1, .inr 1, 25, 2⟩ (List.mem_of_getElem? (i := 1) rfl)).at (b := b4) (C := #[.int .i64 0, .int .i64 0]) st rfl rfl) (all0)))
        replace st := st.cast rfl (show _ = ([(b3, .cells (#[.int .i64 0, .int .i64 0]) 25 (0, 0)), (b4, .cells (#[.int .i64 0, .int .i64 0]) 25 (0, 0)), (b8, .cells (#[.int .i64 r, .int .i64 s]) 2 (0, 0)), (b5, .cells (#[.int .i64 0, .int .i64 0]) 25 (0, 0)), (b2, .cells (#[.int .i64 qx, .int .i64 qy]) 25 (0, 0)), (b1, .cells (#[.int .i64 px, .int .i64 py]) 25 (0, 0))] : Hp) from rfl)
        clear hput hback
        replace st := st.pickTo (F' := [(0, .agg (#[.int .i64 px, .int .i64 py])), (1, .int .i64 r), (2, .agg (#[.int .i64 qx, .int .i64 qy])), (3, .int .i64 s), (4, .int .i64 base), (5, .pointer (some ⟨b1, 0, none⟩)), (7, .pointer (some ⟨b2, 0, none⟩)), (10, .pointer (some ⟨b3, 0, none⟩)), (11, .pointer (some ⟨b4, 0, none⟩)), (12, .nilIface), (25, .agg (#[.int .i64 0, .int .i64 0])), (13, .pointer (some ⟨b5, 0, none⟩)), (26, .agg (#[.int .i64 px, .int .i64 py])), (27, .bool false), (28, .bool false), (29, .agg (#[.int .i64 qx, .int .i64 qy])), (30, .bool false), (31, .bool false), (32, .bool false), (33, .int .i64 r), (34, .int .i64 s), (35, .slice (some ⟨b8, 0, none⟩) 2 2), (36, .bool (rngB r && rngB s)), (37, .bool true), (38, .bool true), (39, .bool true), (40, undef), (41, undef), (42, .bool true), (43, .bool true), (44, undef), (45, undef), (46, .bool true)]) [0, 1, 2, 3, 4, 5, 7, 10, 11, 12, 25, 13, 26, 27, 28, 29, 30, 31, 32, 33, 34, 35, 36, 37, 38, 39, 40, 41, 42, 43, 44, 45, 46] (by kernel_rfl)
        obtain ⟨b9, hvb9, hbb9, hnb9⟩ := he.ifc 2 rfl rfl
        replace st := (st.know hvb9).add hbb9 hnb9
        clear hvb9 hbb9 hnb9
        clear he
        change wpList _ _ _ [_] _ _
        refine xseg 1 st rfl ?_
        clear st a; intro a st
        refine x_nil ?_
        show NP _ _ _ _
        refine NP.normal ?_
        refine x_wpret ?_
        refine x_thenRet ?_
        exact x_retp st [.agg (#[.int .i64 0, .int .i64 0]), .agg (#[.int .i64 0, .int .i64 0]), .iface 80 (.pointer (some ⟨b9, 0, none⟩))] rfl ⟨⟨_, rfl, run_loadW (st.at 1 rfl) r25.choose_spec.1 r25.choose_spec.2 s25 rfl⟩, ⟨_, rfl, run_loadW (st.at 2 rfl) r25.choose_spec.1 r25.choose_spec.2 s25 rfl⟩, rfl, trivial⟩ rfl (⟨_, .inr ⟨by rw [he]; decide, _, rfl, by rw [he]; exact st.at 0 rfl, (st.own _ (List.mem_of_getElem? (i := 0) rfl)).resolve_left (by simp)⟩, by rw [he]; rfl⟩)
      · rw [hg2_13] at st
        refine x_unguard st (b := false) rfl rfl rfl ?_
        refine xseg 1 st rfl ?_
        clear st a; intro a st
        refine x_unguard st (b := false) rfl rfl rfl ?_
        refine xseg 3 st rfl ?_
        clear st a; intro a st
        rcases Bool.eq_false_or_eq_true (decide (base < 1)) with hg2_17 | hg2_17
        · rw [hg2_17] at st
          refine x_skip st (b := false) (c := true) rfl rfl rfl (by decide) rfl (by decide) ?_
          clear st a; intro a st
          refine x_skip st (b := false) (c := true) rfl rfl rfl (by decide) rfl (by decide) ?_
          clear st a; intro a st
          refine xseg 1 st rfl ?_
          clear st a; intro a st
          refine x_nil ?_
          refine x_condT st rfl ?_
          refine x_seq ?_
          have he := meet27 (show mBad px py r qx qy s base = true from by unfold mBad; (try rw [hg2_2]); (try rw [hg2_6]); (try rw [hg2_13]); (try rw [hg2_17]); first | (simp; done) | (simp; omega))
          replace st := (st.front 2 rfl).cast rfl (show _ = ([(b4, .cells (#[.int .i64 0, .int .i64 0]) 25 (0, 0)), (b8, .cells (#[.int .i64 r, .int .i64 s]) 2 (0, 0)), (b5, .cells (#[.int .i64 0, .int .i64 0]) 25 (0, 0)), (b3, .cells (#[.int .i64 0, .int .i64 0]) 25 (0, 0)), (b2, .cells (#[.int .i64 qx, .int .i64 qy]) 25 (0, 0)), (b1, .cells (#[.int .i64 px, .int .i64 py]) 25 (0, 0))] : Hp) from rfl)
          replace st := (st.front 3 rfl).cast rfl (show _ = ([(b3, .cells (#[.int .i64 0, .int .i64 0]) 25 (0, 0)), (b4, .cells (#[.int .i64 0, .int .i64 0]) 25 (0, 0)), (b8, .cells (#[.int .i64 r, .int .i64 s]) 2 (0, 0)), (b5, .cells (#[.int .i64 0, .int .i64 0]) 25 (0, 0)), (b2, .cells (#[.int .i64 qx, .int .i64 qy]) 25 (0, 0)), (b1, .cells (#[.int .i64 px, .int .i64 py]) 25 (0, 0))] : Hp) from rfl)
          refine x_drawE (HB := ([(b3, .cells (#[.int .i64 0, .int .i64 0]) 25 (0, 0)), (b4, .cells (#[.int .i64 0, .int .i64 0]) 25 (0, 0))] : Hp)) (H := ([(b8, .cells (#[.int .i64 r, .int .i64 s]) 2 (0, 0)), (b5, .cells (#[.int .i64 0, .int .i64 0]) 25 (0, 0)), (b2, .cells (#[.int .i64 qx, .int .i64 qy]) 25 (0, 0)), (b1, .cells (#[.int .i64 px, .int .i64 py]) 25 (0, 0))] : Hp)) st [5] [⟨3, 10, 47, 0, .inr 0, 25, 2⟩, ⟨4, 11, 48, 1, .inr 1, 25, 2⟩] [.det (.agg (#[.int .i64 0, .int .i64 0])), .det (.agg (#[.int .i64 0, .int .i64 0])), .spec (.ifc 80 (errObj (⟨#[99, 105, 114, 99, 108, 101]⟩) 27)), .det undef, .det undef, .det undef] mixed (by kernel_rfl) (by kernel_rfl) ⟨⟨s25, fun v w h => ⟨#[.int .i64 0, .int .i64 0], h, rfl, (by first | rfl | simp [Value.oneCell'])⟩, ⟨_, _, rfl, rfl, rfl⟩⟩, ⟨s25, fun v w h => ⟨#[.int .i64 0, .int .i64 0], h, rfl, (by first | rfl | simp [Value.oneCell'])⟩, ⟨_, _, rfl, rfl, rfl⟩⟩, trivial⟩
            ⟨ob_w (Fi := [(13, .pointer (some ⟨b5, 0, none⟩))]) (by kernel_rfl) rfl rfl ⟨by kernel_rfl, trivial⟩ (fun a w st hk hxx => r_load st rfl rfl (run_loadW (st.at 1 rfl) r25.choose_spec.1 r25.choose_spec.2 s25 rfl)),
              ob_w (Fi := [(13, .pointer (some ⟨b5, 0, none⟩))]) (by kernel_rfl) rfl rfl ⟨by kernel_rfl, trivial⟩ (fun a w st hk hxx => r_load st rfl rfl (run_loadW (st.at 1 rfl) r25.choose_spec.1 r25.choose_spec.2 s25 rfl)),
              ob_callW (Fi := []) (by kernel_rfl) rfl ent14 rfl trivial rfl (fun a w st hk hxx => (bad_circle 27 _)) ifc_spec,
              ob_store (by kernel_rfl),
              ob_store (by kernel_rfl),
              ob_store (by kernel_rfl), trivial⟩ ?_
          intro a1 w1 hk1 st1 he hput hback
          clear hk1 st a w; revert st1 he hput hback; revert a1; revert w1; intro w a st he hput hback
          replace st := hback ([(b3, .cells (#[.int .i64 0, .int .i64 0]) 25 (0, 0)), (b4, .cells (#[.int .i64 0, .int .i64 0]) 25 (0, 0))] : Hp) (by simp only [List.map_cons, List.map_nil]) (all1 ((hput ⟨3, 10, 47, 0, .inr 0, 25, 2⟩ (List.mem_of_getElem? (i := 0) rfl)).at (b := b3) (C := #[.int .i64 0, .int .i64 0]) st rfl rfl) (all1 ((hput ⟨4, 11, 48, 1, .inr 1, 25, 2⟩ (List.mem_of_getElem? (i := 1) rfl)).at (b := b4) (C := #[.int .i64 0, .int .i64 0]) st rfl rfl) (all0)))
          replace st := st.cast rfl (show _ = ([(b3, .cells (#[.int .i64 0, .int .i64 0]) 25 (0, 0)), (b4, .cells (#[.int .i64 0, .int .i64 0]) 25 (0, 0)), (b8, .cells (#[.int .i64 r, .int .i64 s]) 2 (0, 0)), (b5, .cells (#[.int .i64 0, .int .i64 0]) 25 (0, 0)), (b2, .cells (#[.int .i64 qx, .int .i64 qy]) 25 (0, 0)), (b1, .cells (#[.int .i64 px, .int .i64 py]) 25 (0, 0))] : Hp) from rfl)
          clear hput hback
          replace st := st.pickTo (F' := [(0, .agg (#[.int .i64 px, .int .i64 py])), (1, .int .i64 r), (2, .agg (#[.int .i64 qx, .int .i64 qy])), (3, .int .i64 s), (4, .int .i64 base), (5, .pointer (some ⟨b1, 0, none⟩)), (7, .pointer (some ⟨b2, 0, none⟩)), (10, .pointer (some ⟨b3, 0, none⟩)), (11, .pointer (some ⟨b4, 0, none⟩)), (12, .nilIface), (25, .agg (#[.int .i64 0, .int .i64 0])), (13, .pointer (some ⟨b5, 0, none⟩)), (26, .agg (#[.int .i64 px, .int .i64 py])), (27, .bool false), (28, .bool false), (29, .agg (#[.int .i64 qx, .int .i64 qy])), (30, .bool false), (31, .bool false), (32, .bool false), (33, .int .i64 r), (34, .int .i64 s), (35, .slice (some ⟨b8, 0, none⟩) 2 2), (36, .bool (rngB r && rngB s)), (37, .bool false), (38, .bool false), (39, .bool false), (40, .int .i64 base), (41, .bool true), (42, .bool true), (43, .bool true), (44, undef), (45, undef), (46, .bool true)]) [0, 1, 2, 3, 4, 5, 7, 10, 11, 12, 25, 13, 26, 27, 28, 29, 30, 31, 32, 33, 34, 35, 36, 37, 38, 39, 40, 41, 42, 43, 44, 45, 46] (by kernel_rfl)
          obtain ⟨b10, hvb10, hbb10, hnb10⟩ := he.ifc 2 rfl rfl
          replace st := (st.know hvb10).add hbb10 hnb10
          clear hvb10 hbb10 hnb10
          clear he
          change wpList _ _ _ [_] _ _
          refine xseg 1 st rfl ?_
          clear st a; intro a st
          refine x_nil ?_
          show NP _ _ _ _
          refine NP.normal ?_
          refine x_wpret ?_
          refine x_thenRet ?_
          exact x_retp st [.agg (#[.int .i64 0, .int .i64 0]), .agg (#[.int .i64 0, .int .i64 0]), .iface 80 (.pointer (some ⟨b10, 0, none⟩))] rfl ⟨⟨_, rfl, run_loadW (st.at 1 rfl) r25.choose_spec.1 r25.choose_spec.2 s25 rfl⟩, ⟨_, rfl, run_loadW (st.at 2 rfl) r25.choose_spec.1 r25.choose_spec.2 s25 rfl⟩, rfl, trivial⟩ rfl (⟨_, .inr ⟨by rw [he]; decide, _, rfl, by rw [he]; exact st.at 0 rfl, (st.own _ (List.mem_of_getElem? (i := 0) rfl)).resolve_left (by simp)⟩, by rw [he]; rfl⟩)
        · rw [hg2_17] at st
          refine x_unguard st (b := false) rfl rfl rfl ?_
          refine xseg 1 st rfl ?_
          clear st a; intro a st
          refine x_unguard st (b := false) rfl rfl rfl ?_
          refine xseg 2 st rfl ?_
          clear st a; intro a st
          refine x_nil ?_
          refine x_condD st rfl (fun h2 => ?_) (fun h2 => ?_)
          · refine x_seq ?_
            have he := meet27 (show mBad px py r qx qy s base = true from by unfold mBad; (try rw [hg2_2]); (try rw [hg2_6]); (try rw [hg2_13]); (try rw [hg2_17]); first | (simp; done) | (simp; omega))
            replace st := (st.front 2 rfl).cast rfl (show _ = ([(b4, .cells (#[.int .i64 0, .int .i64 0]) 25 (0, 0)), (b8, .cells (#[.int .i64 r, .int .i64 s]) 2 (0, 0)), (b5, .cells (#[.int .i64 0, .int .i64 0]) 25 (0, 0)), (b3, .cells (#[.int .i64 0, .int .i64 0]) 25 (0, 0)), (b2, .cells (#[.int .i64 qx, .int .i64 qy]) 25 (0, 0)), (b1, .cells (#[.int .i64 px, .int .i64 py]) 25 (0, 0))] : Hp) from rfl)
            replace st := (st.front 3 rfl).cast rfl (show _ = ([(b3, .cells (#[.int .i64 0, .int .i64 0]) 25 (0, 0)), (b4, .cells (#[.int .i64 0, .int .i64 0]) 25 (0, 0)), (b8, .cells (#[.int .i64 r, .int .i64 s]) 2 (0, 0)), (b5, .cells (#[.int .i64 0, .int .i64 0]) 25 (0, 0)), (b2, .cells (#[.int .i64 qx, .int .i64 qy]) 25 (0, 0)), (b1, .cells (#[.int .i64 px, .int .i64 py]) 25 (0, 0))] : Hp) from rfl)
            refine x_drawE (HB := ([(b3, .cells (#[.int .i64 0, .int .i64 0]) 25 (0, 0)), (b4, .cells (#[.int .i64 0, .int .i64 0]) 25 (0, 0))] : Hp)) (H := ([(b8, .cells (#[.int .i64 r, .int .i64 s]) 2 (0, 0)), (b5, .cells (#[.int .i64 0, .int .i64 0]) 25 (0, 0)), (b2, .cells (#[.int .i64 qx, .int .i64 qy]) 25 (0, 0)), (b1, .cells (#[.int .i64 px, .int .i64 py]) 25 (0, 0))] : Hp)) st [5] [⟨3, 10, 47, 0, .inr 0, 25, 2⟩, ⟨4, 11, 48, 1, .inr 1, 25, 2⟩] [.det (.agg (#[.int .i64 0, .int .i64 0])), .det (.agg (#[.int .i64 0, .int .i64 0])), .spec (.ifc 80 (errObj (⟨#[99, 105, 114, 99, 108, 101]⟩) 27)), .det undef, .det undef, .det undef] mixed (by kernel_rfl) (by kernel_rfl) ⟨⟨s25, fun v w h => ⟨#[.int .i64 0, .int .i64 0], h, rfl, (by first | rfl | simp [Value.oneCell'])⟩, ⟨_, _, rfl, rfl, rfl⟩⟩, ⟨s25, fun v w h => ⟨#[.int .i64 0, .int .i64 0], h, rfl, (by first | rfl | simp [Value.oneCell'])⟩, ⟨_, _, rfl, rfl, rfl⟩⟩, trivial⟩
              ⟨ob_w (Fi := [(13, .pointer (some ⟨b5, 0, none⟩))]) (by kernel_rfl) rfl rfl ⟨by kernel_rfl, trivial⟩ (fun a w st hk hxx => r_load st rfl rfl (run_loadW (st.at 1 rfl) r25.choose_spec.1 r25.choose_spec.2 s25 rfl)),
                ob_w (Fi := [(13, .pointer (some ⟨b5, 0, none⟩))]) (by kernel_rfl) rfl rfl ⟨by kernel_rfl, trivial⟩ (fun a w st hk hxx => r_load st rfl rfl (run_loadW (st.at 1 rfl) r25.choose_spec.1 r25.choose_spec.2 s25 rfl)),
                ob_callW (Fi := []) (by kernel_rfl) rfl ent14 rfl trivial rfl (fun a w st hk hxx => (bad_circle 27 _)) ifc_spec,
                ob_store (by kernel_rfl),
                ob_store (by kernel_rfl),
                ob_store (by kernel_rfl), trivial⟩ ?_
            intro a1 w1 hk1 st1 he hput hback
            clear hk1 st a w; revert st1 he hput hback; revert a1; revert w1; intro w a st he hput hback
            replace st := hback ([(b3, .cells (#[.int .i64 0, .int .i64 0]) 25 (0, 0)), (b4, .cells (#[.int .i64 0, .int .i64 0]) 25 (0, 0))] : Hp) (by simp only [List.map_cons, List.map_nil]) (all1 ((hput ⟨3, 10, 47, 0, .inr 0, 25, 2⟩ (List.mem_of_getElem? (i := 0) rfl)).at (b := b3) (C := #[.int .i64 0, .int .i64 0]) st rfl rfl) (all1 ((hput ⟨4, 11, 48, 1, .inr 1, 25, 2⟩ (List.mem_of_getElem? (i := 1) rfl)).at (b := b4) (C := #[.int .i64 0, .int .i64 0]) st rfl rfl) (all0)))
            replace st := st.cast rfl (show _ = ([(b3, .cells (#[.int .i64 0, .int .i64 0]) 25 (0, 0)), (b4, .cells (#[.int .i64 0, .int .i64 0]) 25 (0, 0)), (b8, .cells (#[.int .i64 r, .int .i64 s]) 2 (0, 0)), (b5, .cells (#[.int .i64 0, .int .i64 0]) 25 (0, 0)), (b2, .cells (#[.int .i64 qx, .int .i64 qy]) 25 (0, 0)), (b1, .cells (#[.int .i64 px, .int .i64 py]) 25 (0, 0))] : Hp) from rfl)
            clear hput hback
            replace st := st.pickTo (F' := [(0, .agg (#[.int .i64 px, .int .i64 py])), (1, .int .i64 r), (2, .agg (#[.int .i64 qx, .int .i64 qy])), (3, .int .i64 s), (4, .int .i64 base), (5, .pointer (some ⟨b1, 0, none⟩)), (7, .pointer (some ⟨b2, 0, none⟩)), (10, .pointer (some ⟨b3, 0, none⟩)), (11, .pointer (some ⟨b4, 0, none⟩)), (12, .nilIface), (25, .agg (#[.int .i64 0, .int .i64 0])), (13, .pointer (some ⟨b5, 0, none⟩)), (26, .agg (#[.int .i64 px, .int .i64 py])), (27, .bool false), (28, .bool false), (29, .agg (#[.int .i64 qx, .int .i64 qy])), (30, .bool false), (31, .bool false), (32, .bool false), (33, .int .i64 r), (34, .int .i64 s), (35, .slice (some ⟨b8, 0, none⟩) 2 2), (36, .bool (rngB r && rngB s)), (37, .bool false), (38, .bool false), (39, .bool false), (40, .int .i64 base), (41, .bool false), (42, .bool false), (43, .bool false), (44, .int .i64 base), (45, .bool (decide (base > 4194304))), (46, .bool (decide (base > 4194304)))]) [0, 1, 2, 3, 4, 5, 7, 10, 11, 12, 25, 13, 26, 27, 28, 29, 30, 31, 32, 33, 34, 35, 36, 37, 38, 39, 40, 41, 42, 43, 44, 45, 46] (by kernel_rfl)
            obtain ⟨b11, hvb11, hbb11, hnb11⟩ := he.ifc 2 rfl rfl
            replace st := (st.know hvb11).add hbb11 hnb11
            clear hvb11 hbb11 hnb11
            clear he
            change wpList _ _ _ [_] _ _
            refine xseg 1 st rfl ?_
            clear st a; intro a st
            refine x_nil ?_
            show NP _ _ _ _
            refine NP.normal ?_
            refine x_wpret ?_
            refine x_thenRet ?_
            exact x_retp st [.agg (#[.int .i64 0, .int .i64 0]), .agg (#[.int .i64 0, .int .i64 0]), .iface 80 (.pointer (some ⟨b11, 0, none⟩))] rfl ⟨⟨_, rfl, run_loadW (st.at 1 rfl) r25.choose_spec.1 r25.choose_spec.2 s25 rfl⟩, ⟨_, rfl, run_loadW (st.at 2 rfl) r25.choose_spec.1 r25.choose_spec.2 s25 rfl⟩, rfl, trivial⟩ rfl (⟨_, .inr ⟨by rw [he]; decide, _, rfl, by rw [he]; exact st.at 0 rfl, (st.own _ (List.mem_of_getElem? (i := 0) rfl)).resolve_left (by simp)⟩, by rw [he]; rfl⟩)
          · refine wp_skip ?_
            refine x_seq ?_
            have hbad : mBad px py r qx qy s base = false := by unfold mBad; rw [hg2_2, hg2_6, hg2_13, hg2_17]; simp; omega
            have hrs : rngB r = true ∧ rngB s = true := by simpa using hg2_13
            obtain ⟨hr, hs⟩ := hrs
            have hb1 : 1 ≤ base ∧ base ≤ 4194304 := by simp at hg2_17; omega
            have hD := mD_bd hg2_2 hg2_6
            have hA := mA_bd (qx := qx) (qy := qy) hg2_2 hg2_6 hr hs
            have hR := mRest_bd (qx := qx) (qy := qy) hg2_2 hg2_6 hr hs
            have hK := mK_bd (qx := qx) (qy := qy) hg2_2 hg2_6 hr hs
            have hB := sq_le (x := base) (B := 4194304) (by omega)
            have hr2 := rngB_yes hr
            have hs2 := rngB_yes hs
            have hfp := farB_no hg2_2
            have hfq := farB_no hg2_6
            refine x_draw st [] [.det (.pointer (some ⟨b2, 0, none⟩)), .det (.int .i64 qx), .det (.pointer (some ⟨b1, 0, none⟩)), .det (.int .i64 px), .det (.int .i64 (qx - px)), .det (.pointer (some ⟨b2, 1, none⟩)), .det (.int .i64 qy), .det (.pointer (some ⟨b1, 1, none⟩)), .det (.int .i64 py), .det (.int .i64 (qy - py)), .det (.int .i64 (qx - px)), .det (.int .i64 (qy - py))] mixed (by kernel_rfl)
              ⟨ob_run (Fi := [(7, .pointer (some ⟨b2, 0, none⟩))]) (by kernel_rfl) rfl rfl ⟨by kernel_rfl, trivial⟩ (fun a w st hk hxx w' => r_field st rfl rfl o25_0),
                ob_w (Fi := [(50, .pointer (some ⟨b2, 0, none⟩))]) (by kernel_rfl) rfl rfl ⟨by kernel_rfl, trivial⟩ (fun a w st hk hxx => r_load st rfl rfl (run_load1 (st.at 4 rfl) u2 rfl rfl)),
                ob_run (Fi := [(5, .pointer (some ⟨b1, 0, none⟩))]) (by kernel_rfl) rfl rfl ⟨by kernel_rfl, trivial⟩ (fun a w st hk hxx w' => r_field st rfl rfl o25_0),
                ob_w (Fi := [(52, .pointer (some ⟨b1, 0, none⟩))]) (by kernel_rfl) rfl rfl ⟨by kernel_rfl, trivial⟩ (fun a w st hk hxx => r_load st rfl rfl (run_load1 (st.at 5 rfl) u2 rfl rfl)),
                ob_p (Fi := [(51, .int .i64 qx), (53, .int .i64 px)]) (by kernel_rfl) rfl rfl ⟨by kernel_rfl, by kernel_rfl, trivial⟩ rfl (wi64 (by omega) rfl),
                ob_run (Fi := [(7, .pointer (some ⟨b2, 0, none⟩))]) (by kernel_rfl) rfl rfl ⟨by kernel_rfl, trivial⟩ (fun a w st hk hxx w' => r_field st rfl rfl o25_1),
                ob_w (Fi := [(55, .pointer (some ⟨b2, 1, none⟩))]) (by kernel_rfl) rfl rfl ⟨by kernel_rfl, trivial⟩ (fun a w st hk hxx => r_load st rfl rfl (run_load1 (st.at 4 rfl) u2 rfl rfl)),
                ob_run (Fi := [(5, .pointer (some ⟨b1, 0, none⟩))]) (by kernel_rfl) rfl rfl ⟨by kernel_rfl, trivial⟩ (fun a w st hk hxx w' => r_field st rfl rfl o25_1),
                ob_w (Fi := [(57, .pointer (some ⟨b1, 1, none⟩))]) (by kernel_rfl) rfl rfl ⟨by kernel_rfl, trivial⟩ (fun a w st hk hxx => r_load st rfl rfl (run_load1 (st.at 5 rfl) u2 rfl rfl)),
                ob_p (Fi := [(56, .int .i64 qy), (58, .int .i64 py)]) (by kernel_rfl) rfl rfl ⟨by kernel_rfl, by kernel_rfl, trivial⟩ rfl (wi64 (by omega) rfl),
                ob_p (Fi := [(54, .int .i64 (qx - px))]) (by kernel_rfl) rfl rfl ⟨by kernel_rfl, trivial⟩ rfl rfl,
                ob_p (Fi := [(59, .int .i64 (qy - py))]) (by kernel_rfl) rfl rfl ⟨by kernel_rfl, trivial⟩ rfl rfl, trivial⟩ ?_
            intro a1 w1 hk1 st1 he
            clear hk1 st a w; revert st1 he; revert a1; revert w1; intro w a st he
            replace st := st.pickTo (F' := [(0, .agg (#[.int .i64 px, .int .i64 py])), (1, .int .i64 r), (2, .agg (#[.int .i64 qx, .int .i64 qy])), (3, .int .i64 s), (4, .int .i64 base), (5, .pointer (some ⟨b1, 0, none⟩)), (7, .pointer (some ⟨b2, 0, none⟩)), (10, .pointer (some ⟨b3, 0, none⟩)), (11, .pointer (some ⟨b4, 0, none⟩)), (12, .nilIface), (25, .agg (#[.int .i64 0, .int .i64 0])), (13, .pointer (some ⟨b5, 0, none⟩)), (26, .agg (#[.int .i64 px, .int .i64 py])), (27, .bool false), (28, .bool false), (29, .agg (#[.int .i64 qx, .int .i64 qy])), (30, .bool false), (31, .bool false), (32, .bool false), (33, .int .i64 r), (34, .int .i64 s), (35, .slice (some ⟨b8, 0, none⟩) 2 2), (36, .bool (rngB r && rngB s)), (37, .bool false), (38, .bool false), (39, .bool false), (40, .int .i64 base), (41, .bool false), (42, .bool false), (43, .bool false), (44, .int .i64 base), (45, .bool (decide (base > 4194304))), (46, .bool (decide (base > 4194304))), (14, .int .i64 (qx - px)), (15, .int .i64 (qy - py))]) [0, 1, 2, 3, 4, 5, 7, 10, 11, 12, 25, 13, 26, 27, 28, 29, 30, 31, 32, 33, 34, 35, 36, 37, 38, 39, 40, 41, 42, 43, 44, 45, 46, 14, 15] (by kernel_rfl)
            clear he
            change wpList _ _ _ [] _ _
            refine x_nil ?_
            show NP _ _ _ _
            refine NP.normal ?_
            refine x_seq ?_
            refine x_region ?_
            refine xseg 2 st rfl ?_
            clear st a; intro a st
            refine xp st (.int .i64 ((qx - px) * (qx - px))) rfl (wi64 (by omega) rfl) rfl rfl (by decide) ?_
            clear st a; intro a st
            refine xseg 2 st rfl ?_
            clear st a; intro a st
            refine xp st (.int .i64 ((qy - py) * (qy - py))) rfl (wi64 (by omega) rfl) rfl rfl (by decide) ?_
            clear st a; intro a st
            refine xp st (.int .i64 (mD px py qx qy)) rfl (wi64 (by omega) rfl) rfl rfl (by decide) ?_
            clear st a; intro a st
            refine xseg 1 st rfl ?_
            clear st a; intro a st
            refine x_nil ?_
            refine x_seq ?_
            refine x_seq ?_
            refine x_region ?_
            refine xseg 3 st rfl ?_
            clear st a; intro a st
            refine xp st (.int .i64 (base * base)) rfl (wi64 (by omega) rfl) rfl rfl (by decide) ?_
            clear st a; intro a st
            refine xseg 1 st rfl ?_
            clear st a; intro a st
            refine x_nil ?_
            refine x_condD st rfl (fun h6 => ?_) (fun h6 => ?_)
            · refine x_seq ?_
              have he := meet33 hbad h6
              replace st := (st.front 2 rfl).cast rfl (show _ = ([(b4, .cells (#[.int .i64 0, .int .i64 0]) 25 (0, 0)), (b8, .cells (#[.int .i64 r, .int .i64 s]) 2 (0, 0)), (b5, .cells (#[.int .i64 0, .int .i64 0]) 25 (0, 0)), (b3, .cells (#[.int .i64 0, .int .i64 0]) 25 (0, 0)), (b2, .cells (#[.int .i64 qx, .int .i64 qy]) 25 (0, 0)), (b1, .cells (#[.int .i64 px, .int .i64 py]) 25 (0, 0))] : Hp) from rfl)
              replace st := (st.front 3 rfl).cast rfl (show _ = ([(b3, .cells (#[.int .i64 0, .int .i64 0]) 25 (0, 0)), (b4, .cells (#[.int .i64 0, .int .i64 0]) 25 (0, 0)), (b8, .cells (#[.int .i64 r, .int .i64 s]) 2 (0, 0)), (b5, .cells (#[.int .i64 0, .int .i64 0]) 25 (0, 0)), (b2, .cells (#[.int .i64 qx, .int .i64 qy]) 25 (0, 0)), (b1, .cells (#[.int .i64 px, .int .i64 py]) 25 (0, 0))] : Hp) from rfl)
              refine x_drawE (HB := ([(b3, .cells (#[.int .i64 0, .int .i64 0]) 25 (0, 0)), (b4, .cells (#[.int .i64 0, .int .i64 0]) 25 (0, 0))] : Hp)) (H := ([(b8, .cells (#[.int .i64 r, .int .i64 s]) 2 (0, 0)), (b5, .cells (#[.int .i64 0, .int .i64 0]) 25 (0, 0)), (b2, .cells (#[.int .i64 qx, .int .i64 qy]) 25 (0, 0)), (b1, .cells (#[.int .i64 px, .int .i64 py]) 25 (0, 0))] : Hp)) st [5] [⟨3, 10, 72, 0, .inr 0, 25, 2⟩, ⟨4, 11, 73, 1, .inr 1, 25, 2⟩] [.det (.agg (#[.int .i64 0, .int .i64 0])), .det (.agg (#[.int .i64 0, .int .i64 0])), .spec (.ifc 80 (errObj (⟨#[99, 105, 114, 99, 108, 101]⟩) 33)), .det undef, .det undef, .det undef] mixed (by kernel_rfl) (by kernel_rfl) ⟨⟨s25, fun v w h => ⟨#[.int .i64 0, .int .i64 0], h, rfl, (by first | rfl | simp [Value.oneCell'])⟩, ⟨_, _, rfl, rfl, rfl⟩⟩, ⟨s25, fun v w h => ⟨#[.int .i64 0, .int .i64 0], h, rfl, (by first | rfl | simp [Value.oneCell'])⟩, ⟨_, _, rfl, rfl, rfl⟩⟩, trivial⟩
                ⟨ob_w (Fi := [(13, .pointer (some ⟨b5, 0, none⟩))]) (by kernel_rfl) rfl rfl ⟨by kernel_rfl, trivial⟩ (fun a w st hk hxx => r_load st rfl rfl (run_loadW (st.at 1 rfl) r25.choose_spec.1 r25.choose_spec.2 s25 rfl)),
                  ob_w (Fi := [(13, .pointer (some ⟨b5, 0, none⟩))]) (by kernel_rfl) rfl rfl ⟨by kernel_rfl, trivial⟩ (fun a w st hk hxx => r_load st rfl rfl (run_loadW (st.at 1 rfl) r25.choose_spec.1 r25.choose_spec.2 s25 rfl)),
                  ob_callW (Fi := []) (by kernel_rfl) rfl ent14 rfl trivial rfl (fun a w st hk hxx => (bad_circle 33 _)) ifc_spec,
                  ob_store (by kernel_rfl),
                  ob_store (by kernel_rfl),
                  ob_store (by kernel_rfl), trivial⟩ ?_
              intro a1 w1 hk1 st1 he hput hback
              clear hk1 st a w; revert st1 he hput hback; revert a1; revert w1; intro w a st he hput hback
              replace st := hback ([(b3, .cells (#[.int .i64 0, .int .i64 0]) 25 (0, 0)), (b4, .cells (#[.int .i64 0, .int .i64 0]) 25 (0, 0))] : Hp) (by simp only [List.map_cons, List.map_nil]) (all1 ((hput ⟨3, 10, 72, 0, .inr 0, 25, 2⟩ (List.mem_of_getElem? (i := 0) rfl)).at (b := b3) (C := #[.int .i64 0, .int .i64 0]) st rfl rfl) (all1 ((hput ⟨4, 11, 73, 1, .inr 1, 25, 2⟩ (List.mem_of_getElem? (i := 1) rfl)).at (b := b4) (C := #[.int .i64 0, .int .i64 0]) st rfl rfl) (all0)))
              replace st := st.cast rfl (show _ = ([(b3, .cells (#[.int .i64 0, .int .i64 0]) 25 (0, 0)), (b4, .cells (#[.int .i64 0, .int .i64 0]) 25 (0, 0)), (b8, .cells (#[.int .i64 r, .int .i64 s]) 2 (0, 0)), (b5, .cells (#[.int .i64 0, .int .i64 0]) 25 (0, 0)), (b2, .cells (#[.int .i64 qx, .int .i64 qy]) 25 (0, 0)), (b1, .cells (#[.int .i64 px, .int .i64 py]) 25 (0, 0))] : Hp) from rfl)
              clear hput hback
              replace st := st.pickTo (F' := [(0, .agg (#[.int .i64 px, .int .i64 py])), (1, .int .i64 r), (2, .agg (#[.int .i64 qx, .int .i64 qy])), (3, .int .i64 s), (4, .int .i64 base), (5, .pointer (some ⟨b1, 0, none⟩)), (7, .pointer (some ⟨b2, 0, none⟩)), (10, .pointer (some ⟨b3, 0, none⟩)), (11, .pointer (some ⟨b4, 0, none⟩)), (12, .nilIface), (25, .agg (#[.int .i64 0, .int .i64 0])), (13, .pointer (some ⟨b5, 0, none⟩)), (26, .agg (#[.int .i64 px, .int .i64 py])), (27, .bool false), (28, .bool false), (29, .agg (#[.int .i64 qx, .int .i64 qy])), (30, .bool false), (31, .bool false), (32, .bool false), (33, .int .i64 r), (34, .int .i64 s), (35, .slice (some ⟨b8, 0, none⟩) 2 2), (36, .bool (rngB r && rngB s)), (37, .bool false), (38, .bool false), (39, .bool false), (40, .int .i64 base), (41, .bool false), (42, .bool false), (43, .bool false), (44, .int .i64 base), (45, .bool (decide (base > 4194304))), (46, .bool (decide (base > 4194304))), (14, .int .i64 (qx - px)), (15, .int .i64 (qy - py)), (60, .int .i64 (qx - px)), (61, .int .i64 (qx - px)), (62, .int .i64 ((qx - px) * (qx - px))), (63, .int .i64 (qy - py)), (64, .int .i64 (qy - py)), (65, .int .i64 ((qy - py) * (qy - py))), (66, .int .i64 (mD px py qx qy)), (16, .int .i64 (mD px py qx qy)), (67, .int .i64 (mD px py qx qy)), (68, .int .i64 base), (69, .int .i64 base), (70, .int .i64 (base * base)), (71, .bool (decide (mD px py qx qy < base * base)))]) [0, 1, 2, 3, 4, 5, 7, 10, 11, 12, 25, 13, 26, 27, 28, 29, 30, 31, 32, 33, 34, 35, 36, 37, 38, 39, 40, 41, 42, 43, 44, 45, 46, 14, 15, 60, 61, 62, 63, 64, 65, 66, 16, 67, 68, 69, 70, 71] (by kernel_rfl)
              obtain ⟨b12, hvb12, hbb12, hnb12⟩ := he.ifc 2 rfl rfl
              replace st := (st.know hvb12).add hbb12 hnb12
              clear hvb12 hbb12 hnb12
              clear he
              change wpList _ _ _ [_] _ _
              refine xseg 1 st rfl ?_
              clear st a; intro a st
              refine x_nil ?_
              show NP _ _ _ _
              refine NP.normal ?_
              refine x_wpret ?_
              refine x_thenRet ?_
              exact x_retp st [.agg (#[.int .i64 0, .int .i64 0]), .agg (#[.int .i64 0, .int .i64 0]), .iface 80 (.pointer (some ⟨b12, 0, none⟩))] rfl ⟨⟨_, rfl, run_loadW (st.at 1 rfl) r25.choose_spec.1 r25.choose_spec.2 s25 rfl⟩, ⟨_, rfl, run_loadW (st.at 2 rfl) r25.choose_spec.1 r25.choose_spec.2 s25 rfl⟩, rfl, trivial⟩ rfl (⟨_, .inr ⟨by rw [he]; decide, _, rfl, by rw [he]; exact st.at 0 rfl, (st.own _ (List.mem_of_getElem? (i := 0) rfl)).resolve_left (by simp)⟩, by rw [he]; rfl⟩)
            · refine wp_skip ?_
              refine x_seq ?_
              refine x_region ?_
              refine xseg 2 st rfl ?_
              clear st a; intro a st
              refine xp st (.int .i64 (r * r)) rfl (wi64 (by omega) rfl) rfl rfl (by decide) ?_
              clear st a; intro a st
              refine xseg 2 st rfl ?_
              clear st a; intro a st
              refine xp st (.int .i64 (s * s)) rfl (wi64 (by omega) rfl) rfl rfl (by decide) ?_
              clear st a; intro a st
              refine xp st (.int .i64 (r * r - s * s)) rfl (wi64 (by omega) rfl) rfl rfl (by decide) ?_
              clear st a; intro a st
              refine xseg 1 st rfl ?_
              clear st a; intro a st
              refine xp st (.int .i64 (mA px py r qx qy s)) rfl (wi64 (by omega) rfl) rfl rfl (by decide) ?_
              clear st a; intro a st
              refine xseg 1 st rfl ?_
              clear st a; intro a st
              refine x_nil ?_
              refine x_seq ?_
              have k1 : inR (4 * r * r * mD px py qx qy) := inR_abs (Nat.le_trans (mul_bd (A := 2 ^ 64) (B := 2 ^ 64) (by omega) (by omega)) (by decide))
              have k2 : inR ((mA px py r qx qy s) * (mA px py r qx qy s)) := inR_abs (Nat.le_trans (mul_bd (A := 2 ^ 64) (B := 2 ^ 64) (by omega) (by omega)) (by decide))
              have k3 : inR (mRest px py r qx qy s) := inR_abs (Nat.le_trans hR.2 (by decide))
              refine x_region ?_
              refine xseg 1 st rfl ?_
              clear st a; intro a st
              refine xp st (.int .i64 (4 * r)) rfl (wi64 (by omega) rfl) rfl rfl (by decide) ?_
              clear st a; intro a st
              refine xseg 1 st rfl ?_
              clear st a; intro a st
              refine xp st (.int .i64 (4 * r * r)) rfl (wi64 (by omega) rfl) rfl rfl (by decide) ?_
              clear st a; intro a st
              refine xseg 1 st rfl ?_
              clear st a; intro a st
              refine x_call st rfl rfl ent16 rfl rfl (by decide) ((product_ok (4 * r * r) (mD px py qx qy) (by omega) (by omega) _)) ?_
              intro a1 w1 v1 hk1 hv hn st1; subst hv
              clear hn hk1 st a w; revert st1; revert a1; revert w1; intro w a st
              refine xseg 2 st rfl ?_
              clear st a; intro a st
              refine x_call st rfl rfl ent16 rfl rfl (by decide) ((product_ok (mA px py r qx qy s) (mA px py r qx qy s) (by omega) (by omega) _)) ?_
              intro a1 w1 v1 hk1 hv hn st1; subst hv
              clear hn hk1 st a w; revert st1; revert a1; revert w1; intro w a st
              refine x_call st rfl rfl ent15 rfl rfl (by decide) ((Sub_ok (4 * r * r * mD px py qx qy) (mA px py r qx qy s * mA px py r qx qy s) k1 k2 k3 _)) ?_
              intro a1 w1 v1 hk1 hv hn st1; subst hv
              clear hn hk1 st a w; revert st1; revert a1; revert w1; intro w a st
              refine xseg 3 st rfl ?_
              clear st a; intro a st
              refine x_alloc st rfl z47 rfl rfl (by decide) ?_
              clear st a; intro a w b13 st
              replace st := st.cast rfl (show _ = ([(b13, .cells (Wd 0) 47 (0, 0)), (b8, .cells (#[.int .i64 r, .int .i64 s]) 2 (0, 0)), (b5, .cells (#[.int .i64 0, .int .i64 0]) 25 (0, 0)), (b4, .cells (#[.int .i64 0, .int .i64 0]) 25 (0, 0)), (b3, .cells (#[.int .i64 0, .int .i64 0]) 25 (0, 0)), (b2, .cells (#[.int .i64 qx, .int .i64 qy]) 25 (0, 0)), (b1, .cells (#[.int .i64 px, .int .i64 py]) 25 (0, 0))] : Hp) from rfl)
              refine x_store st 0 rfl rfl rfl rfl (run_storeW (st.at 0 rfl) (by first | exact s47 | simp only [s47, Wd_size]) (by first | rfl | simp only [Wd_size]) (AF_one _ _)) rfl rfl ?_
              clear st a w; intro a w st
              replace st := st.cast rfl (show _ = ([(b13, .cells (Wd (mRest px py r qx qy s)) 47 (0, 0)), (b8, .cells (#[.int .i64 r, .int .i64 s]) 2 (0, 0)), (b5, .cells (#[.int .i64 0, .int .i64 0]) 25 (0, 0)), (b4, .cells (#[.int .i64 0, .int .i64 0]) 25 (0, 0)), (b3, .cells (#[.int .i64 0, .int .i64 0]) 25 (0, 0)), (b2, .cells (#[.int .i64 qx, .int .i64 qy]) 25 (0, 0)), (b1, .cells (#[.int .i64 px, .int .i64 py]) 25 (0, 0))] : Hp) from rfl)
              refine xseg 1 st rfl ?_
              clear st a; intro a st
              refine x_nil ?_
              refine x_seq ?_
              refine x_seq ?_
              refine x_region ?_
              refine x_run (v := .agg (Wd (mRest px py r qx qy s))) st (r_load st rfl rfl (run_loadW (st.at 0 rfl) u47 rfl s47 (Wd_size _))) rfl rfl (by decide) ?_
              clear st a; intro a st
              refine x_call st rfl rfl ent17 rfl rfl (by decide) ((Sign_ok (mRest px py r qx qy s) k3 _)) ?_
              intro a1 w1 v1 hk1 hv hn st1; subst hv
              clear hn hk1 st a w; revert st1; revert a1; revert w1; intro w a st
              refine xp st (.bool (decide (mRest px py r qx qy s < 0))) rfl (beq (sign_lt _)) rfl rfl (by decide) ?_
              clear st a; intro a st
              refine x_nil ?_
              refine x_condD st rfl (fun h10 => ?_) (fun h10 => ?_)
              · refine x_seq ?_
                have he := meet34 hbad h6 (by simpa using h10)
                replace st := (st.front 3 rfl).cast rfl (show _ = ([(b4, .cells (#[.int .i64 0, .int .i64 0]) 25 (0, 0)), (b13, .cells (Wd (mRest px py r qx qy s)) 47 (0, 0)), (b8, .cells (#[.int .i64 r, .int .i64 s]) 2 (0, 0)), (b5, .cells (#[.int .i64 0, .int .i64 0]) 25 (0, 0)), (b3, .cells (#[.int .i64 0, .int .i64 0]) 25 (0, 0)), (b2, .cells (#[.int .i64 qx, .int .i64 qy]) 25 (0, 0)), (b1, .cells (#[.int .i64 px, .int .i64 py]) 25 (0, 0))] : Hp) from rfl)
                replace st := (st.front 4 rfl).cast rfl (show _ = ([(b3, .cells (#[.int .i64 0, .int .i64 0]) 25 (0, 0)), (b4, .cells (#[.int .i64 0, .int .i64 0]) 25 (0, 0)), (b13, .cells (Wd (mRest px py r qx qy s)) 47 (0, 0)), (b8, .cells (#[.int .i64 r, .int .i64 s]) 2 (0, 0)), (b5, .cells (#[.int .i64 0, .int .i64 0]) 25 (0, 0)), (b2, .cells (#[.int .i64 qx, .int .i64 qy]) 25 (0, 0)), (b1, .cells (#[.int .i64 px, .int .i64 py]) 25 (0, 0))] : Hp) from rfl)
                refine x_drawE (HB := ([(b3, .cells (#[.int .i64 0, .int .i64 0]) 25 (0, 0)), (b4, .cells (#[.int .i64 0, .int .i64 0]) 25 (0, 0))] : Hp)) (H := ([(b13, .cells (Wd (mRest px py r qx qy s)) 47 (0, 0)), (b8, .cells (#[.int .i64 r, .int .i64 s]) 2 (0, 0)), (b5, .cells (#[.int .i64 0, .int .i64 0]) 25 (0, 0)), (b2, .cells (#[.int .i64 qx, .int .i64 qy]) 25 (0, 0)), (b1, .cells (#[.int .i64 px, .int .i64 py]) 25 (0, 0))] : Hp)) st [5] [⟨3, 10, 100, 0, .inr 0, 25, 2⟩, ⟨4, 11, 101, 1, .inr 1, 25, 2⟩] [.det (.agg (#[.int .i64 0, .int .i64 0])), .det (.agg (#[.int .i64 0, .int .i64 0])), .spec (.ifc 80 (errObj (⟨#[99, 105, 114, 99, 108, 101]⟩) 34)), .det undef, .det undef, .det undef] mixed (by kernel_rfl) (by kernel_rfl) ⟨⟨s25, fun v w h => ⟨#[.int .i64 0, .int .i64 0], h, rfl, (by first | rfl | simp [Value.oneCell'])⟩, ⟨_, _, rfl, rfl, rfl⟩⟩, ⟨s25, fun v w h => ⟨#[.int .i64 0, .int .i64 0], h, rfl, (by first | rfl | simp [Value.oneCell'])⟩, ⟨_, _, rfl, rfl, rfl⟩⟩, trivial⟩
                  ⟨ob_w (Fi := [(13, .pointer (some ⟨b5, 0, none⟩))]) (by kernel_rfl) rfl rfl ⟨by kernel_rfl, trivial⟩ (fun a w st hk hxx => r_load st rfl rfl (run_loadW (st.at 2 rfl) r25.choose_spec.1 r25.choose_spec.2 s25 rfl)),
                    ob_w (Fi := [(13, .pointer (some ⟨b5, 0, none⟩))]) (by kernel_rfl) rfl rfl ⟨by kernel_rfl, trivial⟩ (fun a w st hk hxx => r_load st rfl rfl (run_loadW (st.at 2 rfl) r25.choose_spec.1 r25.choose_spec.2 s25 rfl)),
                    ob_callW (Fi := []) (by kernel_rfl) rfl ent14 rfl trivial rfl (fun a w st hk hxx => (bad_circle 34 _)) ifc_spec,
                    ob_store (by kernel_rfl),
                    ob_store (by kernel_rfl),
                    ob_store (by kernel_rfl), trivial⟩ ?_
                intro a1 w1 hk1 st1 he hput hback
                clear hk1 st a w; revert st1 he hput hback; revert a1; revert w1; intro w a st he hput hback
                replace st := hback ([(b3, .cells (#[.int .i64 0, .int .i64 0]) 25 (0, 0)), (b4, .cells (#[.int .i64 0, .int .i64 0]) 25 (0, 0))] : Hp) (by simp only [List.map_cons, List.map_nil]) (all1 ((hput ⟨3, 10, 100, 0, .inr 0, 25, 2⟩ (List.mem_of_getElem? (i := 0) rfl)).at (b := b3) (C := #[.int .i64 0, .int .i64 0]) st rfl rfl) (all1 ((hput ⟨4, 11, 101, 1, .inr 1, 25, 2⟩ (List.mem_of_getElem? (i := 1) rfl)).at (b := b4) (C := #[.int .i64 0, .int .i64 0]) st rfl rfl) (all0)))
                replace st := st.cast rfl (show _ = ([(b3, .cells (#[.int .i64 0, .int .i64 0]) 25 (0, 0)), (b4, .cells (#[.int .i64 0, .int .i64 0]) 25 (0, 0)), (b13, .cells (Wd (mRest px py r qx qy s)) 47 (0, 0)), (b8, .cells (#[.int .i64 r, .int .i64 s]) 2 (0, 0)), (b5, .cells (#[.int .i64 0, .int .i64 0]) 25 (0, 0)), (b2, .cells (#[.int .i64 qx, .int .i64 qy]) 25 (0, 0)), (b1, .cells (#[.int .i64 px, .int .i64 py]) 25 (0, 0))] : Hp) from rfl)
                clear hput hback
                replace st := st.pickTo (F' := [(0, .agg (#[.int .i64 px, .int .i64 py])), (1, .int .i64 r), (2, .agg (#[.int .i64 qx, .int .i64 qy])), (3, .int .i64 s), (4, .int .i64 base), (5, .pointer (some ⟨b1, 0, none⟩)), (7, .pointer (some ⟨b2, 0, none⟩)), (10, .pointer (some ⟨b3, 0, none⟩)), (11, .pointer (some ⟨b4, 0, none⟩)), (12, .nilIface), (25, .agg (#[.int .i64 0, .int .i64 0])), (13, .pointer (some ⟨b5, 0, none⟩)), (26, .agg (#[.int .i64 px, .int .i64 py])), (27, .bool false), (28, .bool false), (29, .agg (#[.int .i64 qx, .int .i64 qy])), (30, .bool false), (31, .bool false), (32, .bool false), (33, .int .i64 r), (34, .int .i64 s), (35, .slice (some ⟨b8, 0, none⟩) 2 2), (36, .bool (rngB r && rngB s)), (37, .bool false), (38, .bool false), (39, .bool false), (40, .int .i64 base), (41, .bool false), (42, .bool false), (43, .bool false), (44, .int .i64 base), (45, .bool (decide (base > 4194304))), (46, .bool (decide (base > 4194304))), (14, .int .i64 (qx - px)), (15, .int .i64 (qy - py)), (60, .int .i64 (qx - px)), (61, .int .i64 (qx - px)), (62, .int .i64 ((qx - px) * (qx - px))), (63, .int .i64 (qy - py)), (64, .int .i64 (qy - py)), (65, .int .i64 ((qy - py) * (qy - py))), (66, .int .i64 (mD px py qx qy)), (16, .int .i64 (mD px py qx qy)), (67, .int .i64 (mD px py qx qy)), (68, .int .i64 base), (69, .int .i64 base), (70, .int .i64 (base * base)), (71, .bool (decide (mD px py qx qy < base * base))), (75, .int .i64 r), (76, .int .i64 r), (77, .int .i64 (r * r)), (78, .int .i64 s), (79, .int .i64 s), (80, .int .i64 (s * s)), (81, .int .i64 (r * r - s * s)), (82, .int .i64 (mD px py qx qy)), (83, .int .i64 (mA px py r qx qy s)), (17, .int .i64 (mA px py r qx qy s)), (85, .int .i64 r), (86, .int .i64 (4 * r)), (87, .int .i64 r), (88, .int .i64 (4 * r * r)), (89, .int .i64 (mD px py qx qy)), (90, .agg (Wd (4 * r * r * mD px py qx qy))), (91, .int .i64 (mA px py r qx qy s)), (92, .int .i64 (mA px py r qx qy s)), (93, .agg (Wd (mA px py r qx qy s * mA px py r qx qy s))), (94, .tuple #[.agg (Wd (mRest px py r qx qy s)), .bool true]), (84, .tuple #[.agg (Wd (mRest px py r qx qy s)), .bool true]), (95, .agg (Wd (mRest px py r qx qy s))), (96, .bool true), (18, .pointer (some ⟨b13, 0, none⟩)), (19, .bool true), (97, .agg (Wd (mRest px py r qx qy s))), (98, .int .i64 ((mRest px py r qx qy s).sign)), (99, .bool (decide (mRest px py r qx qy s < 0)))]) [0, 1, 2, 3, 4, 5, 7, 10, 11, 12, 25, 13, 26, 27, 28, 29, 30, 31, 32, 33, 34, 35, 36, 37, 38, 39, 40, 41, 42, 43, 44, 45, 46, 14, 15, 60, 61, 62, 63, 64, 65, 66, 16, 67, 68, 69, 70, 71, 75, 76, 77, 78, 79, 80, 81, 82, 83, 17, 85, 86, 87, 88, 89, 90, 91, 92, 93, 94, 84, 95, 96, 18, 19, 97, 98, 99] (by kernel_rfl)
                obtain ⟨b14, hvb14, hbb14, hnb14⟩ := he.ifc 2 rfl rfl
                replace st := (st.know hvb14).add hbb14 hnb14
                clear hvb14 hbb14 hnb14
                clear he
                change wpList _ _ _ [_] _ _
                refine xseg 1 st rfl ?_
                clear st a; intro a st
                refine x_nil ?_
                show NP _ _ _ _
                refine NP.normal ?_
                refine x_wpret ?_
                refine x_thenRet ?_
                exact x_retp st [.agg (#[.int .i64 0, .int .i64 0]), .agg (#[.int .i64 0, .int .i64 0]), .iface 80 (.pointer (some ⟨b14, 0, none⟩))] rfl ⟨⟨_, rfl, run_loadW (st.at 1 rfl) r25.choose_spec.1 r25.choose_spec.2 s25 rfl⟩, ⟨_, rfl, run_loadW (st.at 2 rfl) r25.choose_spec.1 r25.choose_spec.2 s25 rfl⟩, rfl, trivial⟩ rfl (⟨_, .inr ⟨by rw [he]; decide, _, rfl, by rw [he]; exact st.at 0 rfl, (st.own _ (List.mem_of_getElem? (i := 0) rfl)).resolve_left (by simp)⟩, by rw [he]; rfl⟩)
              · refine wp_skip ?_
                refine x_seq ?_
                refine x_region ?_
                refine x_run (v := .pointer (some ⟨b13, 1, none⟩)) st (r_index st rfl rfl rfl (run_indexA' (k := 1) (off := 1) u47 s45 (by decide) (by first | rfl | omega) _)) rfl rfl (by decide) ?_
                clear st a; intro a st
                refine x_run (v := .int .u64 (((limb (mRest px py r qx qy s)) 1 : Nat) : Int)) st (r_load st rfl rfl (run_load1 (st.at 0 rfl) u45 rfl (AF_get (by decide)))) rfl rfl (by decide) ?_
                clear st a; intro a st
                refine x_run (v := .pointer (some ⟨b13, 0, none⟩)) st (r_index st rfl rfl rfl (run_indexA' (k := 0) (off := 0) u47 s45 (by decide) (by first | rfl | omega) _)) rfl rfl (by decide) ?_
                clear st a; intro a st
                refine x_run (v := .int .u64 (((limb (mRest px py r qx qy s)) 0 : Nat) : Int)) st (r_load st rfl rfl (run_load1 (st.at 0 rfl) u45 rfl (AF_get (by decide)))) rfl rfl (by decide) ?_
                clear st a; intro a st
                refine x_call st rfl rfl ent18 rfl rfl (by decide) ((Root_ok (limb (mRest px py r qx qy s) 1) (limb (mRest px py r qx qy s) 0) (limb_lt _ _) (limb_lt _ _) _)) ?_
                intro a1 w1 v1 hk1 hv hn st1; subst hv
                clear hn hk1 st a w; revert st1; revert a1; revert w1; intro w a st
                refine x_run (v := .int .i64 (mK px py r qx qy s)) st (r_conv (z := mK px py r qx qy s) st rfl rfl u45 u2 (wd_rest (by simpa using h10) hg2_2 hg2_6 hr hs)) rfl rfl (by decide) ?_
                clear st a; intro a st
                refine xseg 1 st rfl ?_
                clear st a; intro a st
                refine x_nil ?_
                refine x_seq ?_
                have hd1 : 1 ≤ mD px py qx qy := by have := sq_nat base; have h7 : 0 < base * base := Int.mul_pos (by omega) (by omega); omega
                refine x_region ?_
                refine x_run (v := .agg (#[.int .i64 px, .int .i64 py])) st (r_load st rfl rfl (run_loadW (st.at 6 rfl) r25.choose_spec.1 r25.choose_spec.2 s25 rfl)) rfl rfl (by decide) ?_
                clear st a; intro a st
                refine xseg 5 st rfl ?_
                clear st a; intro a st
                refine x_call st rfl rfl ent19 rfl rfl (by decide) ((place1_ok hg2_2 hg2_6 hr hs hd1 _)) ?_
                intro a1 w1 v1 hk1 hv hn st1; subst hv
                clear hn hk1 st a w; revert st1; revert a1; revert w1; intro w a st
                refine xseg 3 st rfl ?_
                clear st a; intro a st
                refine x_alloc st rfl z25 rfl rfl (by decide) ?_
                clear st a; intro a w b15 st
                refine x_store st 0 rfl rfl rfl rfl (run_storeW (st.at 0 rfl) s25 rfl (by first | rfl | simp [Value.oneCell'])) rfl rfl ?_
                clear st a w; intro a w st
                replace st := st.cast rfl (show _ = ([(b15, .cells (#[.int .i64 ((mP1 px py r qx qy s).x), .int .i64 ((mP1 px py r qx qy s).y)]) 25 (0, 0)), (b13, .cells (Wd (mRest px py r qx qy s)) 47 (0, 0)), (b8, .cells (#[.int .i64 r, .int .i64 s]) 2 (0, 0)), (b5, .cells (#[.int .i64 0, .int .i64 0]) 25 (0, 0)), (b4, .cells (#[.int .i64 0, .int .i64 0]) 25 (0, 0)), (b3, .cells (#[.int .i64 0, .int .i64 0]) 25 (0, 0)), (b2, .cells (#[.int .i64 qx, .int .i64 qy]) 25 (0, 0)), (b1, .cells (#[.int .i64 px, .int .i64 py]) 25 (0, 0))] : Hp) from rfl)
                refine xseg 1 st rfl ?_
                clear st a; intro a st
                refine x_nil ?_
                refine x_seq ?_
                refine x_region ?_
                refine x_run (v := .agg (#[.int .i64 px, .int .i64 py])) st (r_load st rfl rfl (run_loadW (st.at 7 rfl) r25.choose_spec.1 r25.choose_spec.2 s25 rfl)) rfl rfl (by decide) ?_
                clear st a; intro a st
                refine xseg 2 st rfl ?_
                clear st a; intro a st
                refine x_run (v := .int .i64 (-mK px py r qx qy s)) st (r_neg (z := -mK px py r qx qy s) st rfl rfl (by rw [Int.zero_sub]; exact cvi64 (by omega))) rfl rfl (by decide) ?_
                clear st a; intro a st
                refine xseg 3 st rfl ?_
                clear st a; intro a st
                refine x_call st rfl rfl ent19 rfl rfl (by decide) ((place2_ok hg2_2 hg2_6 hr hs hd1 _)) ?_
                intro a1 w1 v1 hk1 hv hn st1; subst hv
                clear hn hk1 st a w; revert st1; revert a1; revert w1; intro w a st
                refine xseg 3 st rfl ?_
                clear st a; intro a st
                refine x_alloc st rfl z25 rfl rfl (by decide) ?_
                clear st a; intro a w b16 st
                refine x_store st 0 rfl rfl rfl rfl (run_storeW (st.at 0 rfl) s25 rfl (by first | rfl | simp [Value.oneCell'])) rfl rfl ?_
                clear st a w; intro a w st
                replace st := st.cast rfl (show _ = ([(b16, .cells (#[.int .i64 ((mP2 px py r qx qy s).x), .int .i64 ((mP2 px py r qx qy s).y)]) 25 (0, 0)), (b15, .cells (#[.int .i64 ((mP1 px py r qx qy s).x), .int .i64 ((mP1 px py r qx qy s).y)]) 25 (0, 0)), (b13, .cells (Wd (mRest px py r qx qy s)) 47 (0, 0)), (b8, .cells (#[.int .i64 r, .int .i64 s]) 2 (0, 0)), (b5, .cells (#[.int .i64 0, .int .i64 0]) 25 (0, 0)), (b4, .cells (#[.int .i64 0, .int .i64 0]) 25 (0, 0)), (b3, .cells (#[.int .i64 0, .int .i64 0]) 25 (0, 0)), (b2, .cells (#[.int .i64 qx, .int .i64 qy]) 25 (0, 0)), (b1, .cells (#[.int .i64 px, .int .i64 py]) 25 (0, 0))] : Hp) from rfl)
                refine xseg 1 st rfl ?_
                clear st a; intro a st
                refine x_nil ?_
                refine x_seq ?_
                refine x_seq ?_
                refine x_region ?_
                refine xseg 3 st rfl ?_
                clear st a; intro a st
                rcases Bool.eq_false_or_eq_true (!((mP1 px py r qx qy s).ok)) with hg15_2 | hg15_2
                · rw [hg15_2] at st
                  refine x_skip st (b := false) (c := true) rfl rfl rfl (by decide) rfl (by decide) ?_
                  clear st a; intro a st
                  refine x_skip st (b := false) (c := true) rfl rfl rfl (by decide) rfl (by decide) ?_
                  clear st a; intro a st
                  refine xseg 1 st rfl ?_
                  clear st a; intro a st
                  refine x_nil ?_
                  refine x_condT st rfl ?_
                  refine x_seq ?_
                  have he := meet21 hbad h6 (by simpa using h10) (by first | (left; simpa using hg15_2) | (right; simpa using h15))
                  replace st := (st.front 5 rfl).cast rfl (show _ = ([(b4, .cells (#[.int .i64 0, .int .i64 0]) 25 (0, 0)), (b16, .cells (#[.int .i64 ((mP2 px py r qx qy s).x), .int .i64 ((mP2 px py r qx qy s).y)]) 25 (0, 0)), (b15, .cells (#[.int .i64 ((mP1 px py r qx qy s).x), .int .i64 ((mP1 px py r qx qy s).y)]) 25 (0, 0)), (b13, .cells (Wd (mRest px py r qx qy s)) 47 (0, 0)), (b8, .cells (#[.int .i64 r, .int .i64 s]) 2 (0, 0)), (b5, .cells (#[.int .i64 0, .int .i64 0]) 25 (0, 0)), (b3, .cells (#[.int .i64 0, .int .i64 0]) 25 (0, 0)), (b2, .cells (#[.int .i64 qx, .int .i64 qy]) 25 (0, 0)), (b1, .cells (#[.int .i64 px, .int .i64 py]) 25 (0, 0))] : Hp) from rfl)
                  replace st := (st.front 6 rfl).cast rfl (show _ = ([(b3, .cells (#[.int .i64 0, .int .i64 0]) 25 (0, 0)), (b4, .cells (#[.int .i64 0, .int .i64 0]) 25 (0, 0)), (b16, .cells (#[.int .i64 ((mP2 px py r qx qy s).x), .int .i64 ((mP2 px py r qx qy s).y)]) 25 (0, 0)), (b15, .cells (#[.int .i64 ((mP1 px py r qx qy s).x), .int .i64 ((mP1 px py r qx qy s).y)]) 25 (0, 0)), (b13, .cells (Wd (mRest px py r qx qy s)) 47 (0, 0)), (b8, .cells (#[.int .i64 r, .int .i64 s]) 2 (0, 0)), (b5, .cells (#[.int .i64 0, .int .i64 0]) 25 (0, 0)), (b2, .cells (#[.int .i64 qx, .int .i64 qy]) 25 (0, 0)), (b1, .cells (#[.int .i64 px, .int .i64 py]) 25 (0, 0))] : Hp) from rfl)
                  refine x_drawE (HB := ([(b3, .cells (#[.int .i64 0, .int .i64 0]) 25 (0, 0)), (b4, .cells (#[.int .i64 0, .int .i64 0]) 25 (0, 0))] : Hp)) (H := ([(b16, .cells (#[.int .i64 ((mP2 px py r qx qy s).x), .int .i64 ((mP2 px py r qx qy s).y)]) 25 (0, 0)), (b15, .cells (#[.int .i64 ((mP1 px py r qx qy s).x), .int .i64 ((mP1 px py r qx qy s).y)]) 25 (0, 0)), (b13, .cells (Wd (mRest px py r qx qy s)) 47 (0, 0)), (b8, .cells (#[.int .i64 r, .int .i64 s]) 2 (0, 0)), (b5, .cells (#[.int .i64 0, .int .i64 0]) 25 (0, 0)), (b2, .cells (#[.int .i64 qx, .int .i64 qy]) 25 (0, 0)), (b1, .cells (#[.int .i64 px, .int .i64 py]) 25 (0, 0))] : Hp)) st [5] [⟨3, 10, 136, 0, .inr 0, 25, 2⟩, ⟨4, 11, 137, 1, .inr 1, 25, 2⟩] [.det (.agg (#[.int .i64 0, .int .i64 0])), .det (.agg (#[.int .i64 0, .int .i64 0])), .spec (.ifc 80 (errObj (⟨#[99, 105, 114, 99, 108, 101]⟩) 21)), .det undef, .det undef, .det undef] mixed (by kernel_rfl) (by kernel_rfl) ⟨⟨s25, fun v w h => ⟨#[.int .i64 0, .int .i64 0], h, rfl, (by first | rfl | simp [Value.oneCell'])⟩, ⟨_, _, rfl, rfl, rfl⟩⟩, ⟨s25, fun v w h => ⟨#[.int .i64 0, .int .i64 0], h, rfl, (by first | rfl | simp [Value.oneCell'])⟩, ⟨_, _, rfl, rfl, rfl⟩⟩, trivial⟩
                    ⟨ob_w (Fi := [(13, .pointer (some ⟨b5, 0, none⟩))]) (by kernel_rfl) rfl rfl ⟨by kernel_rfl, trivial⟩ (fun a w st hk hxx => r_load st rfl rfl (run_loadW (st.at 4 rfl) r25.choose_spec.1 r25.choose_spec.2 s25 rfl)),
                      ob_w (Fi := [(13, .pointer (some ⟨b5, 0, none⟩))]) (by kernel_rfl) rfl rfl ⟨by kernel_rfl, trivial⟩ (fun a w st hk hxx => r_load st rfl rfl (run_loadW (st.at 4 rfl) r25.choose_spec.1 r25.choose_spec.2 s25 rfl)),
                      ob_callW (Fi := []) (by kernel_rfl) rfl ent14 rfl trivial rfl (fun a w st hk hxx => (bad_circle 21 _)) ifc_spec,
                      ob_store (by kernel_rfl),
                      ob_store (by kernel_rfl),
                      ob_store (by kernel_rfl), trivial⟩ ?_
                  intro a1 w1 hk1 st1 he hput hback
                  clear hk1 st a w; revert st1 he hput hback; revert a1; revert w1; intro w a st he hput hback
                  replace st := hback ([(b3, .cells (#[.int .i64 0, .int .i64 0]) 25 (0, 0)), (b4, .cells (#[.int .i64 0, .int .i64 0]) 25 (0, 0))] : Hp) (by simp only [List.map_cons, List.map_nil]) (all1 ((hput ⟨3, 10, 136, 0, .inr 0, 25, 2⟩ (List.mem_of_getElem? (i := 0) rfl)).at (b := b3) (C := #[.int .i64 0, .int .i64 0]) st rfl rfl) (all1 ((hput ⟨4, 11, 137, 1, .inr 1, 25, 2⟩ (List.mem_of_getElem? (i := 1) rfl)).at (b := b4) (C := #[.int .i64 0, .int .i64 0]) st rfl rfl) (all0)))
                  replace st := st.cast rfl (show _ = ([(b3, .cells (#[.int .i64 0, .int .i64 0]) 25 (0, 0)), (b4, .cells (#[.int .i64 0, .int .i64 0]) 25 (0, 0)), (b16, .cells (#[.int .i64 ((mP2 px py r qx qy s).x), .int .i64 ((mP2 px py r qx qy s).y)]) 25 (0, 0)), (b15, .cells (#[.int .i64 ((mP1 px py r qx qy s).x), .int .i64 ((mP1 px py r qx qy s).y)]) 25 (0, 0)), (b13, .cells (Wd (mRest px py r qx qy s)) 47 (0, 0)), (b8, .cells (#[.int .i64 r, .int .i64 s]) 2 (0, 0)), (b5, .cells (#[.int .i64 0, .int .i64 0]) 25 (0, 0)), (b2, .cells (#[.int .i64 qx, .int .i64 qy]) 25 (0, 0)), (b1, .cells (#[.int .i64 px, .int .i64 py]) 25 (0, 0))] : Hp) from rfl)
                  clear hput hback
                  replace st := st.pickTo (F' := [(0, .agg (#[.int .i64 px, .int .i64 py])), (1, .int .i64 r), (2, .agg (#[.int .i64 qx, .int .i64 qy])), (3, .int .i64 s), (4, .int .i64 base), (5, .pointer (some ⟨b1, 0, none⟩)), (7, .pointer (some ⟨b2, 0, none⟩)), (10, .pointer (some ⟨b3, 0, none⟩)), (11, .pointer (some ⟨b4, 0, none⟩)), (12, .nilIface), (25, .agg (#[.int .i64 0, .int .i64 0])), (13, .pointer (some ⟨b5, 0, none⟩)), (26, .agg (#[.int .i64 px, .int .i64 py])), (27, .bool false), (28, .bool false), (29, .agg (#[.int .i64 qx, .int .i64 qy])), (30, .bool false), (31, .bool false), (32, .bool false), (33, .int .i64 r), (34, .int .i64 s), (35, .slice (some ⟨b8, 0, none⟩) 2 2), (36, .bool (rngB r && rngB s)), (37, .bool false), (38, .bool false), (39, .bool false), (40, .int .i64 base), (41, .bool false), (42, .bool false), (43, .bool false), (44, .int .i64 base), (45, .bool (decide (base > 4194304))), (46, .bool (decide (base > 4194304))), (14, .int .i64 (qx - px)), (15, .int .i64 (qy - py)), (60, .int .i64 (qx - px)), (61, .int .i64 (qx - px)), (62, .int .i64 ((qx - px) * (qx - px))), (63, .int .i64 (qy - py)), (64, .int .i64 (qy - py)), (65, .int .i64 ((qy - py) * (qy - py))), (66, .int .i64 (mD px py qx qy)), (16, .int .i64 (mD px py qx qy)), (67, .int .i64 (mD px py qx qy)), (68, .int .i64 base), (69, .int .i64 base), (70, .int .i64 (base * base)), (71, .bool (decide (mD px py qx qy < base * base))), (75, .int .i64 r), (76, .int .i64 r), (77, .int .i64 (r * r)), (78, .int .i64 s), (79, .int .i64 s), (80, .int .i64 (s * s)), (81, .int .i64 (r * r - s * s)), (82, .int .i64 (mD px py qx qy)), (83, .int .i64 (mA px py r qx qy s)), (17, .int .i64 (mA px py r qx qy s)), (85, .int .i64 r), (86, .int .i64 (4 * r)), (87, .int .i64 r), (88, .int .i64 (4 * r * r)), (89, .int .i64 (mD px py qx qy)), (90, .agg (Wd (4 * r * r * mD px py qx qy))), (91, .int .i64 (mA px py r qx qy s)), (92, .int .i64 (mA px py r qx qy s)), (93, .agg (Wd (mA px py r qx qy s * mA px py r qx qy s))), (94, .tuple #[.agg (Wd (mRest px py r qx qy s)), .bool true]), (84, .tuple #[.agg (Wd (mRest px py r qx qy s)), .bool true]), (95, .agg (Wd (mRest px py r qx qy s))), (96, .bool true), (18, .pointer (some ⟨b13, 0, none⟩)), (19, .bool true), (97, .agg (Wd (mRest px py r qx qy s))), (98, .int .i64 ((mRest px py r qx qy s).sign)), (99, .bool (decide (mRest px py r qx qy s < 0))), (103, .pointer (some ⟨b13, 1, none⟩)), (104, .int .u64 (((limb (mRest px py r qx qy s)) 1 : Nat) : Int)), (105, .pointer (some ⟨b13, 0, none⟩)), (106, .int .u64 (((limb (mRest px py r qx qy s)) 0 : Nat) : Int)), (107, .int .u64 ((isq (limb (mRest px py r qx qy s) 1 * BB + limb (mRest px py r qx qy s) 0) : Nat) : Int)), (108, .int .i64 (mK px py r qx qy s)), (20, .int .i64 (mK px py r qx qy s)), (110, .agg (#[.int .i64 px, .int .i64 py])), (111, .int .i64 (mA px py r qx qy s)), (112, .int .i64 (mK px py r qx qy s)), (113, .int .i64 (qx - px)), (114, .int .i64 (qy - py)), (115, .int .i64 (mD px py qx qy)), (116, .tuple #[.agg (#[.int .i64 ((mP1 px py r qx qy s).x), .int .i64 ((mP1 px py r qx qy s).y)]), .bool ((mP1 px py r qx qy s).ok)]), (109, .tuple #[.agg (#[.int .i64 ((mP1 px py r qx qy s).x), .int .i64 ((mP1 px py r qx qy s).y)]), .bool ((mP1 px py r qx qy s).ok)]), (117, .agg (#[.int .i64 ((mP1 px py r qx qy s).x), .int .i64 ((mP1 px py r qx qy s).y)])), (118, .bool ((mP1 px py r qx qy s).ok)), (21, .pointer (some ⟨b15, 0, none⟩)), (22, .bool ((mP1 px py r qx qy s).ok)), (120, .agg (#[.int .i64 px, .int .i64 py])), (121, .int .i64 (mA px py r qx qy s)), (122, .int .i64 (mK px py r qx qy s)), (123, .int .i64 (-mK px py r qx qy s)), (124, .int .i64 (qx - px)), (125, .int .i64 (qy - py)), (126, .int .i64 (mD px py qx qy)), (127, .tuple #[.agg (#[.int .i64 ((mP2 px py r qx qy s).x), .int .i64 ((mP2 px py r qx qy s).y)]), .bool ((mP2 px py r qx qy s).ok)]), (119, .tuple #[.agg (#[.int .i64 ((mP2 px py r qx qy s).x), .int .i64 ((mP2 px py r qx qy s).y)]), .bool ((mP2 px py r qx qy s).ok)]), (128, .agg (#[.int .i64 ((mP2 px py r qx qy s).x), .int .i64 ((mP2 px py r qx qy s).y)])), (129, .bool ((mP2 px py r qx qy s).ok)), (23, .pointer (some ⟨b16, 0, none⟩)), (24, .bool ((mP2 px py r qx qy s).ok)), (130, .bool ((mP1 px py r qx qy s).ok)), (131, .bool true), (132, .bool true), (133, undef), (134, undef), (135, .bool true)]) [0, 1, 2, 3, 4, 5, 7, 10, 11, 12, 25, 13, 26, 27, 28, 29, 30, 31, 32, 33, 34, 35, 36, 37, 38, 39, 40, 41, 42, 43, 44, 45, 46, 14, 15, 60, 61, 62, 63, 64, 65, 66, 16, 67, 68, 69, 70, 71, 75, 76, 77, 78, 79, 80, 81, 82, 83, 17, 85, 86, 87, 88, 89, 90, 91, 92, 93, 94, 84, 95, 96, 18, 19, 97, 98, 99, 103, 104, 105, 106, 107, 108, 20, 110, 111, 112, 113, 114, 115, 116, 109, 117, 118, 21, 22, 120, 121, 122, 123, 124, 125, 126, 127, 119, 128, 129, 23, 24, 130, 131, 132, 133, 134, 135] (by kernel_rfl)
                  obtain ⟨b17, hvb17, hbb17, hnb17⟩ := he.ifc 2 rfl rfl
                  replace st := (st.know hvb17).add hbb17 hnb17
                  clear hvb17 hbb17 hnb17
                  clear he
                  change wpList _ _ _ [_] _ _
                  refine xseg 1 st rfl ?_
                  clear st a; intro a st
                  refine x_nil ?_
                  show NP _ _ _ _
                  refine NP.normal ?_
                  refine x_wpret ?_
                  refine x_thenRet ?_
                  exact x_retp st [.agg (#[.int .i64 0, .int .i64 0]), .agg (#[.int .i64 0, .int .i64 0]), .iface 80 (.pointer (some ⟨b17, 0, none⟩))] rfl ⟨⟨_, rfl, run_loadW (st.at 1 rfl) r25.choose_spec.1 r25.choose_spec.2 s25 rfl⟩, ⟨_, rfl, run_loadW (st.at 2 rfl) r25.choose_spec.1 r25.choose_spec.2 s25 rfl⟩, rfl, trivial⟩ rfl (⟨_, .inr ⟨by rw [he]; decide, _, rfl, by rw [he]; exact st.at 0 rfl, (st.own _ (List.mem_of_getElem? (i := 0) rfl)).resolve_left (by simp)⟩, by rw [he]; rfl⟩)
                · rw [hg15_2] at st
                  refine x_unguard st (b := false) rfl rfl rfl ?_
                  refine xseg 1 st rfl ?_
                  clear st a; intro a st
                  refine x_unguard st (b := false) rfl rfl rfl ?_
                  refine xseg 2 st rfl ?_
                  clear st a; intro a st
                  refine x_nil ?_
                  refine x_cond st rfl (fun h15 => ?_) (fun h15 => ?_)
                  · refine x_seq ?_
                    have he := meet21 hbad h6 (by simpa using h10) (by first | (left; simpa using hg15_2) | (right; simpa using h15))
                    replace st := (st.front 5 rfl).cast rfl (show _ = ([(b4, .cells (#[.int .i64 0, .int .i64 0]) 25 (0, 0)), (b16, .cells (#[.int .i64 ((mP2 px py r qx qy s).x), .int .i64 ((mP2 px py r qx qy s).y)]) 25 (0, 0)), (b15, .cells (#[.int .i64 ((mP1 px py r qx qy s).x), .int .i64 ((mP1 px py r qx qy s).y)]) 25 (0, 0)), (b13, .cells (Wd (mRest px py r qx qy s)) 47 (0, 0)), (b8, .cells (#[.int .i64 r, .int .i64 s]) 2 (0, 0)), (b5, .cells (#[.int .i64 0, .int .i64 0]) 25 (0, 0)), (b3, .cells (#[.int .i64 0, .int .i64 0]) 25 (0, 0)), (b2, .cells (#[.int .i64 qx, .int .i64 qy]) 25 (0, 0)), (b1, .cells (#[.int .i64 px, .int .i64 py]) 25 (0, 0))] : Hp) from rfl)
                    replace st := (st.front 6 rfl).cast rfl (show _ = ([(b3, .cells (#[.int .i64 0, .int .i64 0]) 25 (0, 0)), (b4, .cells (#[.int .i64 0, .int .i64 0]) 25 (0, 0)), (b16, .cells (#[.int .i64 ((mP2 px py r qx qy s).x), .int .i64 ((mP2 px py r qx qy s).y)]) 25 (0, 0)), (b15, .cells (#[.int .i64 ((mP1 px py r qx qy s).x), .int .i64 ((mP1 px py r qx qy s).y)]) 25 (0, 0)), (b13, .cells (Wd (mRest px py r qx qy s)) 47 (0, 0)), (b8, .cells (#[.int .i64 r, .int .i64 s]) 2 (0, 0)), (b5, .cells (#[.int .i64 0, .int .i64 0]) 25 (0, 0)), (b2, .cells (#[.int .i64 qx, .int .i64 qy]) 25 (0, 0)), (b1, .cells (#[.int .i64 px, .int .i64 py]) 25 (0, 0))] : Hp) from rfl)
                    refine x_drawE (HB := ([(b3, .cells (#[.int .i64 0, .int .i64 0]) 25 (0, 0)), (b4, .cells (#[.int .i64 0, .int .i64 0]) 25 (0, 0))] : Hp)) (H := ([(b16, .cells (#[.int .i64 ((mP2 px py r qx qy s).x), .int .i64 ((mP2 px py r qx qy s).y)]) 25 (0, 0)), (b15, .cells (#[.int .i64 ((mP1 px py r qx qy s).x), .int .i64 ((mP1 px py r qx qy s).y)]) 25 (0, 0)), (b13, .cells (Wd (mRest px py r qx qy s)) 47 (0, 0)), (b8, .cells (#[.int .i64 r, .int .i64 s]) 2 (0, 0)), (b5, .cells (#[.int .i64 0, .int .i64 0]) 25 (0, 0)), (b2, .cells (#[.int .i64 qx, .int .i64 qy]) 25 (0, 0)), (b1, .cells (#[.int .i64 px, .int .i64 py]) 25 (0, 0))] : Hp)) st [5] [⟨3, 10, 136, 0, .inr 0, 25, 2⟩, ⟨4, 11, 137, 1, .inr 1, 25, 2⟩] [.det (.agg (#[.int .i64 0, .int .i64 0])), .det (.agg (#[.int .i64 0, .int .i64 0])), .spec (.ifc 80 (errObj (⟨#[99, 105, 114, 99, 108, 101]⟩) 21)), .det undef, .det undef, .det undef] mixed (by kernel_rfl) (by kernel_rfl) ⟨⟨s25, fun v w h => ⟨#[.int .i64 0, .int .i64 0], h, rfl, (by first | rfl | simp [Value.oneCell'])⟩, ⟨_, _, rfl, rfl, rfl⟩⟩, ⟨s25, fun v w h => ⟨#[.int .i64 0, .int .i64 0], h, rfl, (by first | rfl | simp [Value.oneCell'])⟩, ⟨_, _, rfl, rfl, rfl⟩⟩, trivial⟩
                      ⟨ob_w (Fi := [(13, .pointer (some ⟨b5, 0, none⟩))]) (by kernel_rfl) rfl rfl ⟨by kernel_rfl, trivial⟩ (fun a w st hk hxx => r_load st rfl rfl (run_loadW (st.at 4 rfl) r25.choose_spec.1 r25.choose_spec.2 s25 rfl)),
                        ob_w (Fi := [(13, .pointer (some ⟨b5, 0, none⟩))]) (by kernel_rfl) rfl rfl ⟨by kernel_rfl, trivial⟩ (fun a w st hk hxx => r_load st rfl rfl (run_loadW (st.at 4 rfl) r25.choose_spec.1 r25.choose_spec.2 s25 rfl)),
                        ob_callW (Fi := []) (by kernel_rfl) rfl ent14 rfl trivial rfl (fun a w st hk hxx => (bad_circle 21 _)) ifc_spec,
                        ob_store (by kernel_rfl),
                        ob_store (by kernel_rfl),
                        ob_store (by kernel_rfl), trivial⟩ ?_
                    intro a1 w1 hk1 st1 he hput hback
                    clear hk1 st a w; revert st1 he hput hback; revert a1; revert w1; intro w a st he hput hback
                    replace st := hback ([(b3, .cells (#[.int .i64 0, .int .i64 0]) 25 (0, 0)), (b4, .cells (#[.int .i64 0, .int .i64 0]) 25 (0, 0))] : Hp) (by simp only [List.map_cons, List.map_nil]) (all1 ((hput ⟨3, 10, 136, 0, .inr 0, 25, 2⟩ (List.mem_of_getElem? (i := 0) rfl)).at (b := b3) (C := #[.int .i64 0, .int .i64 0]) st rfl rfl) (all1 ((hput ⟨4, 11, 137, 1, .inr 1, 25, 2⟩ (List.mem_of_getElem? (i := 1) rfl)).at (b := b4) (C := #[.int .i64 0, .int .i64 0]) st rfl rfl) (all0)))
                    replace st := st.cast rfl (show _ = ([(b3, .cells (#[.int .i64 0, .int .i64 0]) 25 (0, 0)), (b4, .cells (#[.int .i64 0, .int .i64 0]) 25 (0, 0)), (b16, .cells (#[.int .i64 ((mP2 px py r qx qy s).x), .int .i64 ((mP2 px py r qx qy s).y)]) 25 (0, 0)), (b15, .cells (#[.int .i64 ((mP1 px py r qx qy s).x), .int .i64 ((mP1 px py r qx qy s).y)]) 25 (0, 0)), (b13, .cells (Wd (mRest px py r qx qy s)) 47 (0, 0)), (b8, .cells (#[.int .i64 r, .int .i64 s]) 2 (0, 0)), (b5, .cells (#[.int .i64 0, .int .i64 0]) 25 (0, 0)), (b2, .cells (#[.int .i64 qx, .int .i64 qy]) 25 (0, 0)), (b1, .cells (#[.int .i64 px, .int .i64 py]) 25 (0, 0))] : Hp) from rfl)
                    clear hput hback
                    replace st := st.pickTo (F' := [(0, .agg (#[.int .i64 px, .int .i64 py])), (1, .int .i64 r), (2, .agg (#[.int .i64 qx, .int .i64 qy])), (3, .int .i64 s), (4, .int .i64 base), (5, .pointer (some ⟨b1, 0, none⟩)), (7, .pointer (some ⟨b2, 0, none⟩)), (10, .pointer (some ⟨b3, 0, none⟩)), (11, .pointer (some ⟨b4, 0, none⟩)), (12, .nilIface), (25, .agg (#[.int .i64 0, .int .i64 0])), (13, .pointer (some ⟨b5, 0, none⟩)), (26, .agg (#[.int .i64 px, .int .i64 py])), (27, .bool false), (28, .bool false), (29, .agg (#[.int .i64 qx, .int .i64 qy])), (30, .bool false), (31, .bool false), (32, .bool false), (33, .int .i64 r), (34, .int .i64 s), (35, .slice (some ⟨b8, 0, none⟩) 2 2), (36, .bool (rngB r && rngB s)), (37, .bool false), (38, .bool false), (39, .bool false), (40, .int .i64 base), (41, .bool false), (42, .bool false), (43, .bool false), (44, .int .i64 base), (45, .bool (decide (base > 4194304))), (46, .bool (decide (base > 4194304))), (14, .int .i64 (qx - px)), (15, .int .i64 (qy - py)), (60, .int .i64 (qx - px)), (61, .int .i64 (qx - px)), (62, .int .i64 ((qx - px) * (qx - px))), (63, .int .i64 (qy - py)), (64, .int .i64 (qy - py)), (65, .int .i64 ((qy - py) * (qy - py))), (66, .int .i64 (mD px py qx qy)), (16, .int .i64 (mD px py qx qy)), (67, .int .i64 (mD px py qx qy)), (68, .int .i64 base), (69, .int .i64 base), (70, .int .i64 (base * base)), (71, .bool (decide (mD px py qx qy < base * base))), (75, .int .i64 r), (76, .int .i64 r), (77, .int .i64 (r * r)), (78, .int .i64 s), (79, .int .i64 s), (80, .int .i64 (s * s)), (81, .int .i64 (r * r - s * s)), (82, .int .i64 (mD px py qx qy)), (83, .int .i64 (mA px py r qx qy s)), (17, .int .i64 (mA px py r qx qy s)), (85, .int .i64 r), (86, .int .i64 (4 * r)), (87, .int .i64 r), (88, .int .i64 (4 * r * r)), (89, .int .i64 (mD px py qx qy)), (90, .agg (Wd (4 * r * r * mD px py qx qy))), (91, .int .i64 (mA px py r qx qy s)), (92, .int .i64 (mA px py r qx qy s)), (93, .agg (Wd (mA px py r qx qy s * mA px py r qx qy s))), (94, .tuple #[.agg (Wd (mRest px py r qx qy s)), .bool true]), (84, .tuple #[.agg (Wd (mRest px py r qx qy s)), .bool true]), (95, .agg (Wd (mRest px py r qx qy s))), (96, .bool true), (18, .pointer (some ⟨b13, 0, none⟩)), (19, .bool true), (97, .agg (Wd (mRest px py r qx qy s))), (98, .int .i64 ((mRest px py r qx qy s).sign)), (99, .bool (decide (mRest px py r qx qy s < 0))), (103, .pointer (some ⟨b13, 1, none⟩)), (104, .int .u64 (((limb (mRest px py r qx qy s)) 1 : Nat) : Int)), (105, .pointer (some ⟨b13, 0, none⟩)), (106, .int .u64 (((limb (mRest px py r qx qy s)) 0 : Nat) : Int)), (107, .int .u64 ((isq (limb (mRest px py r qx qy s) 1 * BB + limb (mRest px py r qx qy s) 0) : Nat) : Int)), (108, .int .i64 (mK px py r qx qy s)), (20, .int .i64 (mK px py r qx qy s)), (110, .agg (#[.int .i64 px, .int .i64 py])), (111, .int .i64 (mA px py r qx qy s)), (112, .int .i64 (mK px py r qx qy s)), (113, .int .i64 (qx - px)), (114, .int .i64 (qy - py)), (115, .int .i64 (mD px py qx qy)), (116, .tuple #[.agg (#[.int .i64 ((mP1 px py r qx qy s).x), .int .i64 ((mP1 px py r qx qy s).y)]), .bool ((mP1 px py r qx qy s).ok)]), (109, .tuple #[.agg (#[.int .i64 ((mP1 px py r qx qy s).x), .int .i64 ((mP1 px py r qx qy s).y)]), .bool ((mP1 px py r qx qy s).ok)]), (117, .agg (#[.int .i64 ((mP1 px py r qx qy s).x), .int .i64 ((mP1 px py r qx qy s).y)])), (118, .bool ((mP1 px py r qx qy s).ok)), (21, .pointer (some ⟨b15, 0, none⟩)), (22, .bool ((mP1 px py r qx qy s).ok)), (120, .agg (#[.int .i64 px, .int .i64 py])), (121, .int .i64 (mA px py r qx qy s)), (122, .int .i64 (mK px py r qx qy s)), (123, .int .i64 (-mK px py r qx qy s)), (124, .int .i64 (qx - px)), (125, .int .i64 (qy - py)), (126, .int .i64 (mD px py qx qy)), (127, .tuple #[.agg (#[.int .i64 ((mP2 px py r qx qy s).x), .int .i64 ((mP2 px py r qx qy s).y)]), .bool ((mP2 px py r qx qy s).ok)]), (119, .tuple #[.agg (#[.int .i64 ((mP2 px py r qx qy s).x), .int .i64 ((mP2 px py r qx qy s).y)]), .bool ((mP2 px py r qx qy s).ok)]), (128, .agg (#[.int .i64 ((mP2 px py r qx qy s).x), .int .i64 ((mP2 px py r qx qy s).y)])), (129, .bool ((mP2 px py r qx qy s).ok)), (23, .pointer (some ⟨b16, 0, none⟩)), (24, .bool ((mP2 px py r qx qy s).ok)), (130, .bool ((mP1 px py r qx qy s).ok)), (131, .bool false), (132, .bool false), (133, .bool ((mP2 px py r qx qy s).ok)), (134, .bool (!((mP2 px py r qx qy s).ok))), (135, .bool (!((mP2 px py r qx qy s).ok)))]) [0, 1, 2, 3, 4, 5, 7, 10, 11, 12, 25, 13, 26, 27, 28, 29, 30, 31, 32, 33, 34, 35, 36, 37, 38, 39, 40, 41, 42, 43, 44, 45, 46, 14, 15, 60, 61, 62, 63, 64, 65, 66, 16, 67, 68, 69, 70, 71, 75, 76, 77, 78, 79, 80, 81, 82, 83, 17, 85, 86, 87, 88, 89, 90, 91, 92, 93, 94, 84, 95, 96, 18, 19, 97, 98, 99, 103, 104, 105, 106, 107, 108, 20, 110, 111, 112, 113, 114, 115, 116, 109, 117, 118, 21, 22, 120, 121, 122, 123, 124, 125, 126, 127, 119, 128, 129, 23, 24, 130, 131, 132, 133, 134, 135] (by kernel_rfl)
                    obtain ⟨b18, hvb18, hbb18, hnb18⟩ := he.ifc 2 rfl rfl
                    replace st := (st.know hvb18).add hbb18 hnb18
                    clear hvb18 hbb18 hnb18
                    clear he
                    change wpList _ _ _ [_] _ _
                    refine xseg 1 st rfl ?_
                    clear st a; intro a st
                    refine x_nil ?_
                    show NP _ _ _ _
                    refine NP.normal ?_
                    refine x_wpret ?_
                    refine x_thenRet ?_
                    exact x_retp st [.agg (#[.int .i64 0, .int .i64 0]), .agg (#[.int .i64 0, .int .i64 0]), .iface 80 (.pointer (some ⟨b18, 0, none⟩))] rfl ⟨⟨_, rfl, run_loadW (st.at 1 rfl) r25.choose_spec.1 r25.choose_spec.2 s25 rfl⟩, ⟨_, rfl, run_loadW (st.at 2 rfl) r25.choose_spec.1 r25.choose_spec.2 s25 rfl⟩, rfl, trivial⟩ rfl (⟨_, .inr ⟨by rw [he]; decide, _, rfl, by rw [he]; exact st.at 0 rfl, (st.own _ (List.mem_of_getElem? (i := 0) rfl)).resolve_left (by simp)⟩, by rw [he]; rfl⟩)
                  · refine wp_skip ?_
                    refine x_seq ?_
                    have he := meet0 hbad h6 (by simpa using h10) (by simpa using hg15_2) (by simpa using h15)
                    replace st := (st.front 6 rfl).cast rfl (show _ = ([(b3, .cells (#[.int .i64 0, .int .i64 0]) 25 (0, 0)), (b16, .cells (#[.int .i64 ((mP2 px py r qx qy s).x), .int .i64 ((mP2 px py r qx qy s).y)]) 25 (0, 0)), (b15, .cells (#[.int .i64 ((mP1 px py r qx qy s).x), .int .i64 ((mP1 px py r qx qy s).y)]) 25 (0, 0)), (b13, .cells (Wd (mRest px py r qx qy s)) 47 (0, 0)), (b8, .cells (#[.int .i64 r, .int .i64 s]) 2 (0, 0)), (b5, .cells (#[.int .i64 0, .int .i64 0]) 25 (0, 0)), (b4, .cells (#[.int .i64 0, .int .i64 0]) 25 (0, 0)), (b2, .cells (#[.int .i64 qx, .int .i64 qy]) 25 (0, 0)), (b1, .cells (#[.int .i64 px, .int .i64 py]) 25 (0, 0))] : Hp) from rfl)
                    refine x_drawE (HB := ([(b3, .cells (#[.int .i64 0, .int .i64 0]) 25 (0, 0))] : Hp)) (H := ([(b16, .cells (#[.int .i64 ((mP2 px py r qx qy s).x), .int .i64 ((mP2 px py r qx qy s).y)]) 25 (0, 0)), (b15, .cells (#[.int .i64 ((mP1 px py r qx qy s).x), .int .i64 ((mP1 px py r qx qy s).y)]) 25 (0, 0)), (b13, .cells (Wd (mRest px py r qx qy s)) 47 (0, 0)), (b8, .cells (#[.int .i64 r, .int .i64 s]) 2 (0, 0)), (b5, .cells (#[.int .i64 0, .int .i64 0]) 25 (0, 0)), (b4, .cells (#[.int .i64 0, .int .i64 0]) 25 (0, 0)), (b2, .cells (#[.int .i64 qx, .int .i64 qy]) 25 (0, 0)), (b1, .cells (#[.int .i64 px, .int .i64 py]) 25 (0, 0))] : Hp)) st [] [⟨2, 10, 139, 0, .inr 0, 25, 2⟩] [.det (.agg (#[.int .i64 ((mP1 px py r qx qy s).x), .int .i64 ((mP1 px py r qx qy s).y)])), .det (.agg (#[.int .i64 ((mP2 px py r qx qy s).x), .int .i64 ((mP2 px py r qx qy s).y)])), .det undef, .det undef, .det undef] mixed (by kernel_rfl) (by kernel_rfl) ⟨⟨s25, fun v w h => ⟨#[.int .i64 ((mP1 px py r qx qy s).x), .int .i64 ((mP1 px py r qx qy s).y)], h, rfl, (by first | rfl | simp [Value.oneCell'])⟩, ⟨_, _, rfl, rfl, rfl⟩⟩, trivial⟩
                      ⟨ob_w (Fi := [(21, .pointer (some ⟨b15, 0, none⟩))]) (by kernel_rfl) rfl rfl ⟨by kernel_rfl, trivial⟩ (fun a w st hk hxx => r_load st rfl rfl (run_loadW (st.at 1 rfl) r25.choose_spec.1 r25.choose_spec.2 s25 rfl)),
                        ob_w (Fi := [(23, .pointer (some ⟨b16, 0, none⟩))]) (by kernel_rfl) rfl rfl ⟨by kernel_rfl, trivial⟩ (fun a w st hk hxx => r_load st rfl rfl (run_loadW (st.at 0 rfl) r25.choose_spec.1 r25.choose_spec.2 s25 rfl)),
                        ob_store (by kernel_rfl),
                        ob_store (by kernel_rfl),
                        ob_store (by kernel_rfl), trivial⟩ ?_
                    intro a1 w1 hk1 st1 he hput hback
                    clear hk1 st a w; revert st1 he hput hback; revert a1; revert w1; intro w a st he hput hback
                    replace st := hback ([(b3, .cells (#[.int .i64 ((mP1 px py r qx qy s).x), .int .i64 ((mP1 px py r qx qy s).y)]) 25 (0, 0))] : Hp) (by simp only [List.map_cons, List.map_nil]) (all1 ((hput ⟨2, 10, 139, 0, .inr 0, 25, 2⟩ (List.mem_of_getElem? (i := 0) rfl)).at (b := b3) (C := #[.int .i64 ((mP1 px py r qx qy s).x), .int .i64 ((mP1 px py r qx qy s).y)]) st rfl rfl) (all0))
                    replace st := st.cast rfl (show _ = ([(b3, .cells (#[.int .i64 ((mP1 px py r qx qy s).x), .int .i64 ((mP1 px py r qx qy s).y)]) 25 (0, 0)), (b16, .cells (#[.int .i64 ((mP2 px py r qx qy s).x), .int .i64 ((mP2 px py r qx qy s).y)]) 25 (0, 0)), (b15, .cells (#[.int .i64 ((mP1 px py r qx qy s).x), .int .i64 ((mP1 px py r qx qy s).y)]) 25 (0, 0)), (b13, .cells (Wd (mRest px py r qx qy s)) 47 (0, 0)), (b8, .cells (#[.int .i64 r, .int .i64 s]) 2 (0, 0)), (b5, .cells (#[.int .i64 0, .int .i64 0]) 25 (0, 0)), (b4, .cells (#[.int .i64 0, .int .i64 0]) 25 (0, 0)), (b2, .cells (#[.int .i64 qx, .int .i64 qy]) 25 (0, 0)), (b1, .cells (#[.int .i64 px, .int .i64 py]) 25 (0, 0))] : Hp) from rfl)
                    clear hput hback
                    replace st := st.pickTo (F' := [(0, .agg (#[.int .i64 px, .int .i64 py])), (1, .int .i64 r), (2, .agg (#[.int .i64 qx, .int .i64 qy])), (3, .int .i64 s), (4, .int .i64 base), (5, .pointer (some ⟨b1, 0, none⟩)), (7, .pointer (some ⟨b2, 0, none⟩)), (10, .pointer (some ⟨b3, 0, none⟩)), (11, .pointer (some ⟨b4, 0, none⟩)), (12, .nilIface), (25, .agg (#[.int .i64 0, .int .i64 0])), (13, .pointer (some ⟨b5, 0, none⟩)), (26, .agg (#[.int .i64 px, .int .i64 py])), (27, .bool false), (28, .bool false), (29, .agg (#[.int .i64 qx, .int .i64 qy])), (30, .bool false), (31, .bool false), (32, .bool false), (33, .int .i64 r), (34, .int .i64 s), (35, .slice (some ⟨b8, 0, none⟩) 2 2), (36, .bool (rngB r && rngB s)), (37, .bool false), (38, .bool false), (39, .bool false), (40, .int .i64 base), (41, .bool false), (42, .bool false), (43, .bool false), (44, .int .i64 base), (45, .bool (decide (base > 4194304))), (46, .bool (decide (base > 4194304))), (14, .int .i64 (qx - px)), (15, .int .i64 (qy - py)), (60, .int .i64 (qx - px)), (61, .int .i64 (qx - px)), (62, .int .i64 ((qx - px) * (qx - px))), (63, .int .i64 (qy - py)), (64, .int .i64 (qy - py)), (65, .int .i64 ((qy - py) * (qy - py))), (66, .int .i64 (mD px py qx qy)), (16, .int .i64 (mD px py qx qy)), (67, .int .i64 (mD px py qx qy)), (68, .int .i64 base), (69, .int .i64 base), (70, .int .i64 (base * base)), (71, .bool (decide (mD px py qx qy < base * base))), (75, .int .i64 r), (76, .int .i64 r), (77, .int .i64 (r * r)), (78, .int .i64 s), (79, .int .i64 s), (80, .int .i64 (s * s)), (81, .int .i64 (r * r - s * s)), (82, .int .i64 (mD px py qx qy)), (83, .int .i64 (mA px py r qx qy s)), (17, .int .i64 (mA px py r qx qy s)), (85, .int .i64 r), (86, .int .i64 (4 * r)), (87, .int .i64 r), (88, .int .i64 (4 * r * r)), (89, .int .i64 (mD px py qx qy)), (90, .agg (Wd (4 * r * r * mD px py qx qy))), (91, .int .i64 (mA px py r qx qy s)), (92, .int .i64 (mA px py r qx qy s)), (93, .agg (Wd (mA px py r qx qy s * mA px py r qx qy s))), (94, .tuple #[.agg (Wd (mRest px py r qx qy s)), .bool true]), (84, .tuple #[.agg (Wd (mRest px py r qx qy s)), .bool true]), (95, .agg (Wd (mRest px py r qx qy s))), (96, .bool true), (18, .pointer (some ⟨b13, 0, none⟩)), (19, .bool true), (97, .agg (Wd (mRest px py r qx qy s))), (98, .int .i64 ((mRest px py r qx qy s).sign)), (99, .bool (decide (mRest px py r qx qy s < 0))), (103, .pointer (some ⟨b13, 1, none⟩)), (104, .int .u64 (((limb (mRest px py r qx qy s)) 1 : Nat) : Int)), (105, .pointer (some ⟨b13, 0, none⟩)), (106, .int .u64 (((limb (mRest px py r qx qy s)) 0 : Nat) : Int)), (107, .int .u64 ((isq (limb (mRest px py r qx qy s) 1 * BB + limb (mRest px py r qx qy s) 0) : Nat) : Int)), (108, .int .i64 (mK px py r qx qy s)), (20, .int .i64 (mK px py r qx qy s)), (110, .agg (#[.int .i64 px, .int .i64 py])), (111, .int .i64 (mA px py r qx qy s)), (112, .int .i64 (mK px py r qx qy s)), (113, .int .i64 (qx - px)), (114, .int .i64 (qy - py)), (115, .int .i64 (mD px py qx qy)), (116, .tuple #[.agg (#[.int .i64 ((mP1 px py r qx qy s).x), .int .i64 ((mP1 px py r qx qy s).y)]), .bool ((mP1 px py r qx qy s).ok)]), (109, .tuple #[.agg (#[.int .i64 ((mP1 px py r qx qy s).x), .int .i64 ((mP1 px py r qx qy s).y)]), .bool ((mP1 px py r qx qy s).ok)]), (117, .agg (#[.int .i64 ((mP1 px py r qx qy s).x), .int .i64 ((mP1 px py r qx qy s).y)])), (118, .bool ((mP1 px py r qx qy s).ok)), (21, .pointer (some ⟨b15, 0, none⟩)), (22, .bool ((mP1 px py r qx qy s).ok)), (120, .agg (#[.int .i64 px, .int .i64 py])), (121, .int .i64 (mA px py r qx qy s)), (122, .int .i64 (mK px py r qx qy s)), (123, .int .i64 (-mK px py r qx qy s)), (124, .int .i64 (qx - px)), (125, .int .i64 (qy - py)), (126, .int .i64 (mD px py qx qy)), (127, .tuple #[.agg (#[.int .i64 ((mP2 px py r qx qy s).x), .int .i64 ((mP2 px py r qx qy s).y)]), .bool ((mP2 px py r qx qy s).ok)]), (119, .tuple #[.agg (#[.int .i64 ((mP2 px py r qx qy s).x), .int .i64 ((mP2 px py r qx qy s).y)]), .bool ((mP2 px py r qx qy s).ok)]), (128, .agg (#[.int .i64 ((mP2 px py r qx qy s).x), .int .i64 ((mP2 px py r qx qy s).y)])), (129, .bool ((mP2 px py r qx qy s).ok)), (23, .pointer (some ⟨b16, 0, none⟩)), (24, .bool ((mP2 px py r qx qy s).ok)), (130, .bool ((mP1 px py r qx qy s).ok)), (131, .bool false), (132, .bool false), (133, .bool ((mP2 px py r qx qy s).ok)), (134, .bool (!((mP2 px py r qx qy s).ok))), (135, .bool (!((mP2 px py r qx qy s).ok))), (140, .agg (#[.int .i64 ((mP2 px py r qx qy s).x), .int .i64 ((mP2 px py r qx qy s).y)]))]) [0, 1, 2, 3, 4, 5, 7, 10, 11, 12, 25, 13, 26, 27, 28, 29, 30, 31, 32, 33, 34, 35, 36, 37, 38, 39, 40, 41, 42, 43, 44, 45, 46, 14, 15, 60, 61, 62, 63, 64, 65, 66, 16, 67, 68, 69, 70, 71, 75, 76, 77, 78, 79, 80, 81, 82, 83, 17, 85, 86, 87, 88, 89, 90, 91, 92, 93, 94, 84, 95, 96, 18, 19, 97, 98, 99, 103, 104, 105, 106, 107, 108, 20, 110, 111, 112, 113, 114, 115, 116, 109, 117, 118, 21, 22, 120, 121, 122, 123, 124, 125, 126, 127, 119, 128, 129, 23, 24, 130, 131, 132, 133, 134, 135, 140] (by kernel_rfl)
                    clear he
                    change wpList _ _ _ [_, _] _ _
                    refine x_store st 6 rfl rfl rfl rfl (run_storeW (st.at 6 rfl) s25 rfl (by first | rfl | simp [Value.oneCell'])) rfl rfl ?_
                    clear st a w; intro a w st
                    replace st := st.cast rfl (show _ = ([(b3, .cells (#[.int .i64 ((mP1 px py r qx qy s).x), .int .i64 ((mP1 px py r qx qy s).y)]) 25 (0, 0)), (b16, .cells (#[.int .i64 ((mP2 px py r qx qy s).x), .int .i64 ((mP2 px py r qx qy s).y)]) 25 (0, 0)), (b15, .cells (#[.int .i64 ((mP1 px py r qx qy s).x), .int .i64 ((mP1 px py r qx qy s).y)]) 25 (0, 0)), (b13, .cells (Wd (mRest px py r qx qy s)) 47 (0, 0)), (b8, .cells (#[.int .i64 r, .int .i64 s]) 2 (0, 0)), (b5, .cells (#[.int .i64 0, .int .i64 0]) 25 (0, 0)), (b4, .cells (#[.int .i64 ((mP2 px py r qx qy s).x), .int .i64 ((mP2 px py r qx qy s).y)]) 25 (0, 0)), (b2, .cells (#[.int .i64 qx, .int .i64 qy]) 25 (0, 0)), (b1, .cells (#[.int .i64 px, .int .i64 py]) 25 (0, 0))] : Hp) from rfl)
                    refine xseg 1 st rfl ?_
                    clear st a; intro a st
                    refine x_nil ?_
                    show NP _ _ _ _
                    refine NP.normal ?_
                    refine x_wpret ?_
                    exact x_retp st [.agg (#[.int .i64 ((mP1 px py r qx qy s).x), .int .i64 ((mP1 px py r qx qy s).y)]), .agg (#[.int .i64 ((mP2 px py r qx qy s).x), .int .i64 ((mP2 px py r qx qy s).y)]), .nilIface] rfl ⟨⟨_, rfl, run_loadW (st.at 0 rfl) r25.choose_spec.1 r25.choose_spec.2 s25 rfl⟩, ⟨_, rfl, run_loadW (st.at 6 rfl) r25.choose_spec.1 r25.choose_spec.2 s25 rfl⟩, rfl, trivial⟩ rfl (⟨_, .inl ⟨he, rfl⟩, by rw [he]; rfl⟩)

end Go.Proofs.YtnkbhmonceiocaaDoor
