/-
  The package wide of the program: take: a multiple of a row taken off another.
-/
import Derived.Test.YtnkbhmonceiocaaDoorWideG
import Derived.Test.YtnkbhmonceiocaaDoorTakeP
import Derived.Test.YtnkbhmonceiocaaDoorCallD
namespace Go.Proofs.YtnkbhmonceiocaaDoor
open Go Go.RowKit
namespace FWideH
theorem add64 (x y c : Nat) (hx : x < BB) (hy : y < BB) (hc : c ≤ 1) (w : World) : (callFunc 40 #[.int .u64 x, .int .u64 y, .int .u64 c]).run Tryd.prog w =
    .ok (.value (.tuple #[.int .u64 (((x + y + c) % BB : Nat) : Int), .int .u64 (((x + y + c) / BB : Nat) : Int)])) w := by
  rw [run_callFunc_extern Tryd.func40 (by kernel_rfl) (by kernel_rfl) (by kernel_rfl) (e := add64Entry) (by kernel_rfl), run_add64 x y c (by omega) (by omega) (by omega) (by omega)]
  simp only [Result.andThen]
  congr 5 <;> omega
theorem ent32 (args : Array Value) (w : World) : (callFunc 32 args).run Tryd.prog w = .ok (.enter 32 args) w := enters_at Tryd.func32 (by kernel_rfl) rfl args w
theorem s45 : (Tryd.prog.info? 45).map (·.size) = some 1 := by kernel_rfl
theorem sub64 (x y b : Nat) (hb : b ≤ 1) (w : World) : (callFunc 70 #[.int .u64 x, .int .u64 y, .int .u64 b]).run Tryd.prog w =
    .ok (.value (.tuple #[.int .u64 (((x + BB - y - b) % BB : Nat) : Int), .int .u64 ((if x < y + b then 1 else 0 : Nat) : Int)])) w := by
  rw [run_callFunc_extern Tryd.func70 (by kernel_rfl) (by kernel_rfl) (by kernel_rfl) (e := sub64Entry) (by kernel_rfl), run_sub64 x y b hb]
  rfl
theorem u45 : Tryd.prog.underlying 45 = some (.int .u64) := by kernel_rfl
theorem u85 : Tryd.prog.underlying 85 = some (.slice 45) := by kernel_rfl
end FWideH
open FWideH
set_option maxRecDepth 20000 in
set_option maxHeartbeats 1000000 in
theorem take_ok {w0 : World} {bu bv o m N Nv q cu cv : Nat} {g v : Nat → Nat} (hbu : Hid (w0.heap[bu]? = some (.cells (AF N g) 45 (0, 0)))) (hbv : Hid (w0.heap[bv]? = some (.cells (AF Nv v) 45 (0, 0)))) (hne : bu ≠ bv) (ho : o + (m + 1) ≤ N) (hm : m ≤ Nv) (hN : N < 4611686018427387904) (hN2 : Nv < 4611686018427387904) (hg : ∀ j, j < N → g j < BB) (hv : ∀ j, j < Nv → v j < BB) (hq : q < BB) (hV : 0 < val m v) (hlo : val (m + 1) (sh g o) / val m v ≤ q) (hhi : q ≤ val (m + 1) (sh g o) / val m v + 1)  :
    Fn Tryd.prog 66 [.slice (some ⟨bu, o, none⟩) (m + 1) cu, .slice (some ⟨bv, 0, none⟩) m cv, .int .u64 ((q : Nat) : Int)] w0 [bu] (fun r w' => ∃ g', w'.heap[bu]? = some (.cells (AF N g') 45 (0, 0)) ∧ (∀ j, j < N → g' j < BB) ∧ (∀ j, j < o ∨ o + m < j → g' j = g j) ∧ r = .int .u64 ((val (m + 1) (sh g o) / val m v : Nat) : Int) ∧ val (m + 1) (sh g' o) = val (m + 1) (sh g o) % val m v) := by
  refine x_enterD (n := 101) (H := ([(bu, .cells (AF N g) 45 (0, 0))] : Hp)) Tryd.func66 rfl rfl (Nat.le_of_ble_eq_true rfl) (fun h hh => by rw [List.mem_singleton.1 hh]; exact ⟨hbu.out, by simp⟩) (by simp) fun a w st => ?_
  refine x_seq ?_
  refine x_region ?_
  refine xseg 1 st rfl ?_
  clear st a; intro a st
  refine x_nil ?_
  refine x_seq ?_
  refine x_region ?_
  refine xseg 2 st rfl ?_
  clear st a; intro a st
  refine x_nil ?_
  refine x_seq ?_
  refine x_seq ?_
  refine x_region ?_
  refine xseg 1 st rfl ?_
  clear st a; intro a st
  refine x_run (v := .int .i64 ((m : Nat) : Int)) st (r_len st rfl rfl u85) rfl rfl (by decide) ?_
  clear st a; intro a st
  refine xseg 1 st rfl ?_
  clear st a; intro a st
  refine x_nil ?_
  refine wp_block ?_
  refine x_loop (G := Nat) (fun k a w => ∃ h br c, St w0 [bu] 101 [(0, .slice (some ⟨bu, o, none⟩) (m + 1) cu), (1, .slice (some ⟨bv, 0, none⟩) m cv), (2, .int .u64 ((q : Nat) : Int)), (16, .slice (some ⟨bv, 0, none⟩) m cv), (17, .int .i64 ((m : Nat) : Int)), (18, .int .i64 ((k : Nat) : Int)), (7, .int .u64 ((br : Nat) : Int)), (8, .int .u64 ((c : Nat) : Int))] ([(bu, .cells (AF N h) 45 (0, 0))] : Hp) a w ∧ (k ≤ m) ∧ (∀ j, j < N → h j < BB) ∧ (∀ j, j < o ∨ o + k ≤ j → h j = g j) ∧ (br ≤ 1) ∧ (c < BB) ∧ (val k (sh h o) + q * val k v = val k (sh g o) + (br + c) * BB ^ k)) (fun k => m - k) 0 ⟨_, 0, 0, st.pickTo [0, 1, 2, 16, 17, 18, 7, 8] (by kernel_rfl), by omega, hg, fun _ _ => rfl, by omega, by decide, (by show 0 + q * 0 = 0 + (0 + 0) * BB ^ 0; simp)⟩ ?_
  clear st a w; intro k a w ⟨h, br, c, st, hk, hh, hout, hbr, hc, hs⟩
  refine x_seq ?_
  refine x_region ?_
  refine xseg 1 st rfl ?_
  clear st a; intro a st
  refine x_nil ?_
  refine x_seq ?_
  refine x_condD st rfl (fun h3 => ?_) (fun h3 => ?_)
  · refine wp_skip ?_
    refine x_seq ?_
    refine wp_block ?_
    refine x_seq ?_
    refine x_region ?_
    refine xseg 1 st rfl ?_
    clear st a; intro a st
    refine x_run (v := .pointer (some ⟨bv, k, none⟩)) st (r_index st rfl rfl rfl (run_indexS' (k := k) (off := k) u85 s45 (by omega) (by first | rfl | omega) _)) rfl rfl (by decide) ?_
    clear st a; intro a st
    refine x_run (v := .int .u64 ((v k : Nat) : Int)) st (r_load st rfl rfl (run_load1 (st.old hbv.out (by simpa using Ne.symm hne)) u45 rfl (AF_get (by omega)))) rfl rfl (by decide) ?_
    clear st a; intro a st
    refine xseg 2 st rfl ?_
    clear st a; intro a st
    refine x_nil ?_
    refine x_seq ?_
    have hvk := hv k (by omega)
    have hgk : h (o + k) = sh g o k := hout _ (by omega)
    refine x_region ?_
    refine xseg 2 st rfl ?_
    clear st a; intro a st
    refine x_call st rfl rfl ent32 rfl rfl (by decide) (Mul64_ok q (v k) (by first | exact limb_lt _ _ | assumption | exact Nat.mod_lt _ (by decide) | omega) (by first | exact limb_lt _ _ | assumption | exact Nat.mod_lt _ (by decide) | omega) _) ?_
    intro a1 w1 v1 hk1 hv hn st1; subst hv
    clear hn hk1 st a w; revert st1; revert a1; revert w1; intro w a st
    refine xseg 5 st rfl ?_
    clear st a; intro a st
    refine x_nil ?_
    refine x_seq ?_
    refine x_region ?_
    refine xseg 1 st rfl ?_
    clear st a; intro a st
    refine x_nil ?_
    refine x_seq ?_
    refine x_region ?_
    refine xseg 2 st rfl ?_
    clear st a; intro a st
    refine x_run (v := .tuple #[.int .u64 (((q * (v k) % BB + c + 0) % BB : Nat) : Int), .int .u64 (((q * (v k) % BB + c + 0) / BB : Nat) : Int)]) st (r_extern st rfl rfl (add64 (q * (v k) % BB) c 0 (by first | exact limb_lt _ _ | assumption | exact Nat.mod_lt _ (by decide) | omega) (by first | exact limb_lt _ _ | assumption | exact Nat.mod_lt _ (by decide) | omega) (by omega) _)) rfl rfl (by decide) ?_
    clear st a; intro a st
    refine xseg 1 st rfl ?_
    clear st a; intro a st
    refine xp st (.int .u64 (((q * v k + c) % BB : Nat) : Int)) rfl (ieq (ms1 _ _)) rfl rfl (by decide) ?_
    clear st a; intro a st
    refine xseg 3 st rfl ?_
    clear st a; intro a st
    refine x_nil ?_
    refine x_seq ?_
    refine x_region ?_
    refine xseg 2 st rfl ?_
    clear st a; intro a st
    refine xp st (.int .u64 (((q * v k + c) / BB : Nat) : Int)) rfl (wu64 (q64 (mul_b1 hq hvk hc)) (congrArg (fun n : Nat => (n : Int)) (ms2 (q * v k) c))) rfl rfl (by decide) ?_
    clear st a; intro a st
    refine xseg 1 st rfl ?_
    clear st a; intro a st
    refine x_nil ?_
    refine x_region ?_
    refine xseg 4 st rfl ?_
    clear st a; intro a st
    refine x_run (v := .pointer (some ⟨bu, o + k, none⟩)) st (r_index st rfl rfl rfl (run_indexS' (k := k) (off := o + k) u85 s45 (by omega) (by first | rfl | omega) _)) rfl rfl (by decide) ?_
    clear st a; intro a st
    refine x_run (v := .int .u64 ((h (o + k) : Nat) : Int)) st (r_load st rfl rfl (run_load1 (st.at 0 rfl) u45 rfl (AF_get (by omega)))) rfl rfl (by decide) ?_
    clear st a; intro a st
    refine xseg 2 st rfl ?_
    clear st a; intro a st
    refine x_run (v := .tuple #[.int .u64 (((h (o + k) + BB - ((q * v k + c) % BB) - br) % BB : Nat) : Int), .int .u64 ((if h (o + k) < (q * v k + c) % BB + br then 1 else 0 : Nat) : Int)]) st (r_extern st rfl rfl (sub64 (h (o + k)) ((q * v k + c) % BB) br (by omega) _)) rfl rfl (by decide) ?_
    clear st a; intro a st
    refine xseg 3 st rfl ?_
    clear st a; intro a st
    refine x_run (v := .pointer (some ⟨bu, o + k, none⟩)) st (r_index st rfl rfl rfl (run_indexS' (k := k) (off := o + k) u85 s45 (by omega) (by first | rfl | omega) _)) rfl rfl (by decide) ?_
    clear st a; intro a st
    refine x_store st 0 rfl rfl rfl rfl (run_store1' (st.at 0 rfl) s45 rfl (by rw [AF_size]; omega) AF_set) rfl rfl ?_
    clear st a w; intro a w st
    replace st := st.cast rfl (show _ = ([(bu, .cells (AF N (upd h (o + k) ((h (o + k) + BB - ((q * v k + c) % BB) - br) % BB))) 45 (0, 0))] : Hp) from rfl)
    refine xseg 1 st rfl ?_
    clear st a; intro a st
    refine x_nil ?_
    refine x_region ?_
    refine xp st (.int .i64 ((k + 1 : Nat) : Int)) rfl (wi64 (by omega) (by omega)) rfl rfl (by decide) ?_
    clear st a; intro a st
    refine xseg 1 st rfl ?_
    clear st a; intro a st
    refine x_nil ?_
    exact ⟨k + 1, ⟨_, _, _, st.pickTo [0, 1, 2, 16, 17, 18, 7, 8] (by kernel_rfl), by omega, updB hh (Nat.mod_lt _ (by decide)), take_out hout, by split <;> omega, mul_b1 hq (hv k (by omega)) hc, take_step1 (hh _ (by omega)) hbr hgk hs⟩, by omega⟩
  · refine wp_exit ?_
    refine x_thenExit ?_
    refine x_thenExit ?_
    refine x_inBlock ?_
    refine x_seq ?_
    obtain rfl : m = k := by omega
    have hhm : h (o + m) = sh g o m := hout _ (by omega)
    have hhb := hh (o + m) (by omega)
    have hs1 := last_step hhb hc hbr hhm hs
    refine x_region ?_
    refine xseg 2 st rfl ?_
    clear st a; intro a st
    refine x_run (v := .int .i64 ((m : Nat) : Int)) st (r_len st rfl rfl u85) rfl rfl (by decide) ?_
    clear st a; intro a st
    refine xseg 2 st rfl ?_
    clear st a; intro a st
    refine x_run (v := .int .i64 ((m : Nat) : Int)) st (r_len st rfl rfl u85) rfl rfl (by decide) ?_
    clear st a; intro a st
    refine x_run (v := .pointer (some ⟨bu, o + m, none⟩)) st (r_index st rfl rfl rfl (run_indexS' (k := m) (off := o + m) u85 s45 (by omega) (by first | rfl | omega) _)) rfl rfl (by decide) ?_
    clear st a; intro a st
    refine x_run (v := .int .u64 ((h (o + m) : Nat) : Int)) st (r_load st rfl rfl (run_load1 (st.at 0 rfl) u45 rfl (AF_get (by omega)))) rfl rfl (by decide) ?_
    clear st a; intro a st
    refine xseg 2 st rfl ?_
    clear st a; intro a st
    refine x_run (v := .tuple #[.int .u64 (((h (o + m) + BB - c - br) % BB : Nat) : Int), .int .u64 ((if h (o + m) < c + br then 1 else 0 : Nat) : Int)]) st (r_extern st rfl rfl (sub64 (h (o + m)) c br (by omega) _)) rfl rfl (by decide) ?_
    clear st a; intro a st
    refine xseg 3 st rfl ?_
    clear st a; intro a st
    refine x_run (v := .pointer (some ⟨bu, o + m, none⟩)) st (r_index st rfl rfl rfl (run_indexS' (k := m) (off := o + m) u85 s45 (by omega) (by first | rfl | omega) _)) rfl rfl (by decide) ?_
    clear st a; intro a st
    refine x_store st 0 rfl rfl rfl rfl (run_store1' (st.at 0 rfl) s45 rfl (by rw [AF_size]; omega) AF_set) rfl rfl ?_
    clear st a w; intro a w st
    replace st := st.cast rfl (show _ = ([(bu, .cells (AF N (upd h (o + m) ((h (o + m) + BB - c - br) % BB))) 45 (0, 0))] : Hp) from rfl)
    refine xseg 1 st rfl ?_
    clear st a; intro a st
    refine x_nil ?_
    have hh1 := updB (v := (h (o + m) + BB - c - br) % BB) (j := o + m) hh (Nat.mod_lt _ (by decide))
    have ho1 := last_out (x := (h (o + m) + BB - c - br) % BB) hout
    generalize upd h (o + m) ((h (o + m) + BB - c - br) % BB) = h1 at st hs1 hh1 ho1
    have hb1 : (if h (o + m) < c + br then 1 else 0) ≤ 1 := by split <;> omega
    generalize (if h (o + m) < c + br then 1 else 0) = b1 at st hs1 hb1
    clear hs hhm hhb hout hh hbr hc hk
    refine x_seq ?_
    refine x_seq ?_
    refine x_region ?_
    refine xseg 2 st rfl ?_
    clear st a; intro a st
    refine x_nil ?_
    refine x_condE st rfl (fun h12 => ?_) (fun h12 => ?_)
    · refine x_seq ?_
      refine x_region ?_
      refine xseg 2 st rfl ?_
      clear st a; intro a st
      refine x_nil ?_
      refine x_wpret ?_
      refine x_thenRet ?_
      have hb1 : b1 = 0 := by omega
      subst hb1
      rw [Nat.zero_mul, Nat.add_zero] at hs1
      have hf := take_fin0 hV hlo hs1
      exact x_retp st [.int .u64 ((q : Nat) : Int)] rfl ⟨rfl, trivial⟩ rfl (⟨h1, st.at 0 rfl, hh1, ho1, ieq (congrArg (fun n : Nat => (n : Int)) hf.1), hf.2⟩)
    · refine wp_skip ?_
      refine x_seq ?_
      refine x_region ?_
      refine xseg 1 st rfl ?_
      clear st a; intro a st
      refine x_nil ?_
      refine x_seq ?_
      refine x_seq ?_
      refine x_region ?_
      refine xseg 1 st rfl ?_
      clear st a; intro a st
      refine x_run (v := .int .i64 ((m : Nat) : Int)) st (r_len st rfl rfl u85) rfl rfl (by decide) ?_
      clear st a; intro a st
      refine xseg 1 st rfl ?_
      clear st a; intro a st
      refine x_nil ?_
      refine wp_block ?_
      refine x_loop (G := Nat) (fun k a w => ∃ h2 c2, St w0 [bu] 101 [(0, .slice (some ⟨bu, o, none⟩) (m + 1) cu), (1, .slice (some ⟨bv, 0, none⟩) m cv), (2, .int .u64 ((q : Nat) : Int)), (70, .slice (some ⟨bv, 0, none⟩) m cv), (71, .int .i64 ((m : Nat) : Int)), (72, .int .i64 ((k : Nat) : Int)), (8, .int .u64 ((c2 : Nat) : Int))] ([(bu, .cells (AF N h2) 45 (0, 0))] : Hp) a w ∧ (k ≤ m) ∧ (∀ j, j < N → h2 j < BB) ∧ (∀ j, j < o ∨ o + k ≤ j → h2 j = h1 j) ∧ (c2 ≤ 1) ∧ (val k (sh h2 o) + c2 * BB ^ k = val k (sh h1 o) + val k v)) (fun k => m - k) 0 ⟨_, 0, st.pickTo [0, 1, 2, 70, 71, 72, 8] (by kernel_rfl), by omega, hh1, fun _ _ => rfl, by omega, (by show 0 + 0 * BB ^ 0 = 0 + 0; simp)⟩ ?_
      clear st a w; intro k a w ⟨h2, c2, st, hk, hh2, ho2, hc2, hs2⟩
      refine x_seq ?_
      refine x_region ?_
      refine xseg 1 st rfl ?_
      clear st a; intro a st
      refine x_nil ?_
      refine x_seq ?_
      refine x_condD st rfl (fun hc16 => ?_) (fun hc16 => ?_)
      · refine wp_skip ?_
        refine x_seq ?_
        refine wp_block ?_
        refine x_seq ?_
        have hvk := hv k (by omega)
        have hhk := hh2 (o + k) (by omega)
        have hgk : h2 (o + k) = sh h1 o k := ho2 _ (by omega)
        refine x_region ?_
        refine xseg 1 st rfl ?_
        clear st a; intro a st
        refine x_run (v := .pointer (some ⟨bv, k, none⟩)) st (r_index st rfl rfl rfl (run_indexS' (k := k) (off := k) u85 s45 (by omega) (by first | rfl | omega) _)) rfl rfl (by decide) ?_
        clear st a; intro a st
        refine x_run (v := .int .u64 ((v k : Nat) : Int)) st (r_load st rfl rfl (run_load1 (st.old hbv.out (by simpa using Ne.symm hne)) u45 rfl (AF_get (by omega)))) rfl rfl (by decide) ?_
        clear st a; intro a st
        refine xseg 2 st rfl ?_
        clear st a; intro a st
        refine x_nil ?_
        refine x_region ?_
        refine xseg 4 st rfl ?_
        clear st a; intro a st
        refine x_run (v := .pointer (some ⟨bu, o + k, none⟩)) st (r_index st rfl rfl rfl (run_indexS' (k := k) (off := o + k) u85 s45 (by omega) (by first | rfl | omega) _)) rfl rfl (by decide) ?_
        clear st a; intro a st
        refine x_run (v := .int .u64 ((h2 (o + k) : Nat) : Int)) st (r_load st rfl rfl (run_load1 (st.at 0 rfl) u45 rfl (AF_get (by omega)))) rfl rfl (by decide) ?_
        clear st a; intro a st
        refine xseg 2 st rfl ?_
        clear st a; intro a st
        refine x_run (v := .tuple #[.int .u64 (((h2 (o + k) + v k + c2) % BB : Nat) : Int), .int .u64 (((h2 (o + k) + v k + c2) / BB : Nat) : Int)]) st (r_extern st rfl rfl (add64 (h2 (o + k)) (v k) c2 (by first | exact limb_lt _ _ | assumption | exact Nat.mod_lt _ (by decide) | omega) (by first | exact limb_lt _ _ | assumption | exact Nat.mod_lt _ (by decide) | omega) (by omega) _)) rfl rfl (by decide) ?_
        clear st a; intro a st
        refine xseg 3 st rfl ?_
        clear st a; intro a st
        refine x_run (v := .pointer (some ⟨bu, o + k, none⟩)) st (r_index st rfl rfl rfl (run_indexS' (k := k) (off := o + k) u85 s45 (by omega) (by first | rfl | omega) _)) rfl rfl (by decide) ?_
        clear st a; intro a st
        refine x_store st 0 rfl rfl rfl rfl (run_store1' (st.at 0 rfl) s45 rfl (by rw [AF_size]; omega) AF_set) rfl rfl ?_
        clear st a w; intro a w st
        replace st := st.cast rfl (show _ = ([(bu, .cells (AF N (upd h2 (o + k) ((h2 (o + k) + v k + c2) % BB))) 45 (0, 0))] : Hp) from rfl)
        refine xseg 1 st rfl ?_
        clear st a; intro a st
        refine x_nil ?_
        refine x_region ?_
        refine xp st (.int .i64 ((k + 1 : Nat) : Int)) rfl (wi64 (by omega) (by omega)) rfl rfl (by decide) ?_
        clear st a; intro a st
        refine xseg 1 st rfl ?_
        clear st a; intro a st
        refine x_nil ?_
        exact ⟨k + 1, ⟨_, _, st.pickTo [0, 1, 2, 70, 71, 72, 8] (by kernel_rfl), by omega, updB hh2 (Nat.mod_lt _ (by decide)), take_out ho2, carry_le hhk hvk hc2, back_step (w := sh h1 o) hs2 (by rw [← hgk]; exact (Nat.div_add_mod' _ _).symm)⟩, by omega⟩
      · refine wp_exit ?_
        refine x_thenExit ?_
        refine x_thenExit ?_
        refine x_inBlock ?_
        refine x_seq ?_
        obtain rfl : m = k := by omega
        have hmm : h2 (o + m) = h1 (o + m) := ho2 _ (by omega)
        have hs3 := back_last hs2 hmm
        have hh3 := updB (v := (h2 (o + m) + c2) % BB) (j := o + m) hh2 (Nat.mod_lt _ (by decide))
        have ho3 := last_out (x := (h2 (o + m) + c2) % BB) ho2
        have hb1 : b1 = 1 := by omega
        subst hb1
        rw [Nat.one_mul] at hs1
        have hf := take_fin1 hV hhi (val_sh_lt hh1 ho) hs1 (val_sh_lt hh3 ho) hs3 (val_le_pw hv hm)
        have hq1 := hf.1
        have hqB : q < 18446744073709551616 := hq
        refine x_region ?_
        refine xseg 2 st rfl ?_
        clear st a; intro a st
        refine x_run (v := .int .i64 ((m : Nat) : Int)) st (r_len st rfl rfl u85) rfl rfl (by decide) ?_
        clear st a; intro a st
        refine x_run (v := .pointer (some ⟨bu, o + m, none⟩)) st (r_index st rfl rfl rfl (run_indexS' (k := m) (off := o + m) u85 s45 (by omega) (by first | rfl | omega) _)) rfl rfl (by decide) ?_
        clear st a; intro a st
        refine x_run (v := .int .u64 ((h2 (o + m) : Nat) : Int)) st (r_load st rfl rfl (run_load1 (st.at 0 rfl) u45 rfl (AF_get (by omega)))) rfl rfl (by decide) ?_
        clear st a; intro a st
        refine xseg 1 st rfl ?_
        clear st a; intro a st
        refine xp st (.int .u64 (((h2 (o + m) + c2) % BB : Nat) : Int)) rfl (wu64m (by rw [Int.natCast_emod, Int.natCast_add]; rfl)) rfl rfl (by decide) ?_
        clear st a; intro a st
        refine x_run (v := .pointer (some ⟨bu, o + m, none⟩)) st (r_index st rfl rfl rfl (run_indexS' (k := m) (off := o + m) u85 s45 (by omega) (by first | rfl | omega) _)) rfl rfl (by decide) ?_
        clear st a; intro a st
        refine x_store st 0 rfl rfl rfl rfl (run_store1' (st.at 0 rfl) s45 rfl (by rw [AF_size]; omega) AF_set) rfl rfl ?_
        clear st a w; intro a w st
        replace st := st.cast rfl (show _ = ([(bu, .cells (AF N (upd h2 (o + m) ((h2 (o + m) + c2) % BB))) 45 (0, 0))] : Hp) from rfl)
        refine x_nil ?_
        refine x_seq ?_
        refine x_region ?_
        refine xseg 1 st rfl ?_
        clear st a; intro a st
        refine xp st (.int .u64 ((q - 1 : Nat) : Int)) rfl (wu64 (by omega) (by omega)) rfl rfl (by decide) ?_
        clear st a; intro a st
        refine xseg 1 st rfl ?_
        clear st a; intro a st
        refine x_nil ?_
        refine x_wpret ?_
        exact x_retp st [.int .u64 ((q - 1 : Nat) : Int)] rfl ⟨rfl, trivial⟩ rfl (⟨_, st.at 0 rfl, hh3, fun j hj => (ho3 j hj).trans (ho1 j hj), ieq (congrArg (fun n : Nat => (n : Int)) hf.2.1), hf.2.2⟩)

end Go.Proofs.YtnkbhmonceiocaaDoor
