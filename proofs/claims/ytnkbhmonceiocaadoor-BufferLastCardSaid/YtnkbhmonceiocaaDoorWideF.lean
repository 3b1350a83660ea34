/-
  The package wide of the program: short: sixteen limbs by one.
-/
import Derived.Test.YtnkbhmonceiocaaDoorWideE
import Derived.Test.YtnkbhmonceiocaaDoorShortP
namespace Go.Proofs.YtnkbhmonceiocaaDoor
open Go Go.RowKit
namespace FWideF
theorem bld47_0u64 (x0 : Int) (w : World) : (Instr.build 47 #[(0, .int .u64 x0)]).run Tryd.prog w = .ok (.agg #[.int .u64 x0, .int .u64 0, .int .u64 0, .int .u64 0, .int .u64 0, .int .u64 0, .int .u64 0, .int .u64 0, .int .u64 0, .int .u64 0, .int .u64 0, .int .u64 0, .int .u64 0, .int .u64 0, .int .u64 0, .int .u64 0]) w := by kernel_rfl
theorem ent68 (args : Array Value) (w : World) : (callFunc 68 args).run Tryd.prog w = .ok (.enter 68 args) w := enters_at Tryd.func68 (by kernel_rfl) rfl args w
theorem s45 : (Tryd.prog.info? 45).map (·.size) = some 1 := by kernel_rfl
theorem s47 : (Tryd.prog.info? 47).map (·.size) = some 16 := by kernel_rfl
theorem u45 : Tryd.prog.underlying 45 = some (.int .u64) := by kernel_rfl
theorem u47 : Tryd.prog.underlying 47 = some (.array 16 45) := by kernel_rfl
theorem z47 : (Tryd.prog.info? 47).bind (·.zero) = some (.agg (#[.int .u64 0, .int .u64 0, .int .u64 0, .int .u64 0, .int .u64 0, .int .u64 0, .int .u64 0, .int .u64 0, .int .u64 0, .int .u64 0, .int .u64 0, .int .u64 0, .int .u64 0, .int .u64 0, .int .u64 0, .int .u64 0])) := by kernel_rfl
end FWideF
open FWideF
set_option maxRecDepth 20000 in
set_option maxHeartbeats 1000000 in
theorem short_ok  (X v : Nat) (hX : X < BB ^ 16) (hv : 0 < v) (hv2 : v < BB) (w0 : World) :
    Fn Tryd.prog 63 [.agg (Wd (X : Int)), .int .u64 ((v : Nat) : Int)] w0 [] (fun r _ => r = .tuple #[.agg (Wd ((X / v : Nat) : Int)), .agg (Wd ((X % v : Nat) : Int))]) := by
  refine x_enter' (n := 26) Tryd.func63 rfl rfl (Nat.le_of_ble_eq_true rfl) fun a w st => ?_
  refine x_seq ?_
  refine x_region ?_
  refine x_box st rfl rfl rfl rfl (by decide) ?_
  clear st a; intro a w b1 st
  refine x_alloc st rfl z47 rfl rfl (by decide) ?_
  clear st a; intro a w b2 st
  replace st := st.cast rfl (show _ = ([(b2, .cells (Wd 0) 47 (0, 0)), (b1, .cells (Wd (X : Int)) 47 (0, 0))] : Hp) from rfl)
  refine x_alloc st rfl z47 rfl rfl (by decide) ?_
  clear st a; intro a w b3 st
  replace st := st.cast rfl (show _ = ([(b3, .cells (Wd 0) 47 (0, 0)), (b2, .cells (Wd 0) 47 (0, 0)), (b1, .cells (Wd (X : Int)) 47 (0, 0))] : Hp) from rfl)
  refine x_nil ?_
  refine x_seq ?_
  refine x_region ?_
  refine xseg 1 st rfl ?_
  clear st a; intro a st
  refine x_nil ?_
  refine x_seq ?_
  refine x_seq ?_
  refine x_region ?_
  refine xseg 1 st rfl ?_
  clear st a; intro a st
  refine x_nil ?_
  refine wp_block ?_
  refine x_loop (G := Nat) (fun k a w => ∃ g r, St w0 [] 26 [(1, .int .u64 ((v : Nat) : Int)), (2, .pointer (some ⟨b1, 0, none⟩)), (4, .pointer (some ⟨b2, 0, none⟩)), (5, .pointer (some ⟨b3, 0, none⟩)), (6, .int .u64 ((r : Nat) : Int)), (7, .int .i64 ((k : Int) - 1))] ([(b3, .cells (Wd 0) 47 (0, 0)), (b2, .cells (Wd 0) 47 (0, 0)), (b1, .cells (AF 16 g) 47 (0, 0))] : Hp) a w ∧ (k ≤ 16) ∧ (r = X / BB ^ k % v) ∧ (∀ j, j < k → g j = limb (X : Int) j) ∧ (∀ j, k ≤ j → j < 16 → g j = limb ((X / v : Nat) : Int) j)) (fun k => k) 16 ⟨_, 0, st.pickTo [1, 2, 4, 5, 6, 7] (by kernel_rfl), by omega, short_r0 hX, fun _ _ => rfl, fun j h1 h2 => absurd h1 (by omega)⟩ ?_
  clear st a w; intro k a w ⟨g, r, st, hk, hr, hl, hg⟩
  refine x_seq ?_
  refine x_seq ?_
  refine x_region ?_
  refine xseg 2 st rfl ?_
  clear st a; intro a st
  refine x_nil ?_
  refine x_condD st rfl (fun h3 => ?_) (fun h3 => ?_)
  · refine wp_skip ?_
    refine x_seq ?_
    refine wp_block ?_
    obtain ⟨k1, rfl⟩ : ∃ k1, k = k1 + 1 := ⟨k - 1, by omega⟩
    have hs := short_step hv hr
    have hrv := short_lt hv hr
    have hgk := hl k1 (by omega)
    have hrB : r < BB := Nat.lt_trans hrv hv2
    have hu : ∀ j, k1 ≤ j → j < 16 → upd g k1 (limb ((X / v : Nat) : Int) k1) j = limb ((X / v : Nat) : Int) j := updD (f := limb ((X / v : Nat) : Int)) hg
    refine x_region ?_
    refine xp st (.int .i64 ((k1 : Nat) : Int)) rfl (ieq (by omega)) rfl rfl (by decide) ?_
    clear st a; intro a st
    refine xseg 1 st rfl ?_
    clear st a; intro a st
    refine xp st (.int .i64 ((k1 : Nat) : Int)) rfl (ieq (by omega)) rfl rfl (by decide) ?_
    clear st a; intro a st
    refine x_run (v := .pointer (some ⟨b1, k1, none⟩)) st (r_index st rfl rfl rfl (run_indexA' (k := k1) (off := k1) u47 s45 (by omega) (by first | rfl | omega) _)) rfl rfl (by decide) ?_
    clear st a; intro a st
    refine x_run (v := .int .u64 ((g k1 : Nat) : Int)) st (r_load st rfl rfl (run_load1 (st.at 2 rfl) u45 rfl (AF_get (by omega)))) rfl rfl (by decide) ?_
    clear st a; intro a st
    refine xseg 1 st rfl ?_
    clear st a; intro a st
    refine x_call st rfl rfl ent68 rfl rfl (by decide) ((Div64_ok r (g k1) v (by rw [hgk]; exact limb_lt _ _) hv2 hrv _)) ?_
    intro a1 w1 v1 hk1 hv hn st1; subst hv
    clear hn hk1 st a w; revert st1; revert a1; revert w1; intro w a st
    refine xseg 1 st rfl ?_
    clear st a; intro a st
    refine xp st (.int .u64 ((limb ((X / v : Nat) : Int) k1 : Nat) : Int)) rfl (ieq (by rw [hgk, hs.1])) rfl rfl (by decide) ?_
    clear st a; intro a st
    refine xp st (.int .u64 (((r * BB + limb (X : Int) k1) % v : Nat) : Int)) rfl (ieq (by rw [hgk])) rfl rfl (by decide) ?_
    clear st a; intro a st
    refine x_run (v := .pointer (some ⟨b1, k1, none⟩)) st (r_index st rfl rfl rfl (run_indexA' (k := k1) (off := k1) u47 s45 (by omega) (by first | rfl | omega) _)) rfl rfl (by decide) ?_
    clear st a; intro a st
    refine x_store st 2 rfl rfl rfl rfl (run_store1' (st.at 2 rfl) s45 rfl (by rw [AF_size]; omega) AF_set) rfl rfl ?_
    clear st a w; intro a w st
    replace st := st.cast rfl (show _ = ([(b3, .cells (Wd 0) 47 (0, 0)), (b2, .cells (Wd 0) 47 (0, 0)), (b1, .cells (AF 16 (upd g k1 (limb ((X / v : Nat) : Int) k1))) 47 (0, 0))] : Hp) from rfl)
    refine xseg 1 st rfl ?_
    clear st a; intro a st
    refine x_nil ?_
    refine x_region ?_
    refine xseg 1 st rfl ?_
    clear st a; intro a st
    refine xp st (.int .i64 ((k1 : Int) - 1)) rfl (wi64 (by omega) (by omega)) rfl rfl (by decide) ?_
    clear st a; intro a st
    refine xseg 1 st rfl ?_
    clear st a; intro a st
    refine x_nil ?_
    exact ⟨k1, ⟨_, _, st.pickTo [1, 2, 4, 5, 6, 7] (by kernel_rfl), by omega, hs.2, updK hl, hu⟩, by omega⟩
  · refine wp_exit ?_
    refine x_thenExit ?_
    refine x_thenExit ?_
    refine x_inBlock ?_
    refine x_seq ?_
    obtain rfl : k = 0 := by omega
    replace st := st.cast rfl (show _ = ([(b3, .cells (Wd 0) 47 (0, 0)), (b2, .cells (Wd 0) 47 (0, 0)), (b1, .cells (Wd ((X / v : Nat) : Int)) 47 (0, 0))] : Hp) from by rw [AF_congr (fun j hj => hg j (Nat.zero_le _) hj)]; rfl)
    have hrX := short_r1 hr
    have hrB : r < BB := Nat.lt_trans (short_lt hv hr) hv2
    refine x_region ?_
    refine x_run (v := .agg (Wd ((X / v : Nat) : Int))) st (r_load st rfl rfl (run_loadW (st.at 2 rfl) u47 rfl s47 (Wd_size _))) rfl rfl (by decide) ?_
    clear st a; intro a st
    refine xseg 1 st rfl ?_
    clear st a; intro a st
    refine x_run (v := .agg (Wd ((X % v : Nat) : Int))) st ((by rw [show (.agg (Wd ((X % v : Nat) : Int)) : Value) = .agg (#[.int .u64 ((r : Nat) : Int), .int .u64 0, .int .u64 0, .int .u64 0, .int .u64 0, .int .u64 0, .int .u64 0, .int .u64 0, .int .u64 0, .int .u64 0, .int .u64 0, .int .u64 0, .int .u64 0, .int .u64 0, .int .u64 0, .int .u64 0]) from (by rw [← hrX, ← Wd_one hrB]; rfl)]; exact r_build st rfl rfl (bld47_0u64 _ _))) rfl rfl (by decide) ?_
    clear st a; intro a st
    refine x_store st 1 rfl rfl rfl rfl (run_storeW (st.at 1 rfl) (by first | exact s47 | simp only [s47, Wd_size]) (by first | rfl | simp only [Wd_size]) (AF_one _ _)) rfl rfl ?_
    clear st a w; intro a w st
    replace st := st.cast rfl (show _ = ([(b3, .cells (Wd 0) 47 (0, 0)), (b2, .cells (Wd ((X / v : Nat) : Int)) 47 (0, 0)), (b1, .cells (Wd ((X / v : Nat) : Int)) 47 (0, 0))] : Hp) from rfl)
    refine x_store st 0 rfl rfl rfl rfl (run_storeW (st.at 0 rfl) (by first | exact s47 | simp only [s47, Wd_size]) (by first | rfl | simp only [Wd_size]) (AF_one _ _)) rfl rfl ?_
    clear st a w; intro a w st
    replace st := st.cast rfl (show _ = ([(b3, .cells (Wd ((X % v : Nat) : Int)) 47 (0, 0)), (b2, .cells (Wd ((X / v : Nat) : Int)) 47 (0, 0)), (b1, .cells (Wd ((X / v : Nat) : Int)) 47 (0, 0))] : Hp) from rfl)
    refine x_nil ?_
    refine x_wpret ?_
    exact x_retp st [.agg (Wd ((X / v : Nat) : Int)), .agg (Wd ((X % v : Nat) : Int))] rfl ⟨⟨_, rfl, run_loadW (st.at 1 rfl) u47 rfl s47 (Wd_size _)⟩, ⟨_, rfl, run_loadW (st.at 0 rfl) u47 rfl s47 (Wd_size _)⟩, trivial⟩ rfl (rfl)

end Go.Proofs.YtnkbhmonceiocaaDoor
