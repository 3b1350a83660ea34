/-
  The package wide of the program: shift: a row of limbs moved to the left.
-/
import Derived.Test.YtnkbhmonceiocaaDoorWideH
import Derived.Test.YtnkbhmonceiocaaDoorLongP
import Derived.Test.YtnkbhmonceiocaaDoorMake
namespace Go.Proofs.YtnkbhmonceiocaaDoor
open Go Go.RowKit
namespace FWideI
theorem bt45 : (Tryd.prog.info? 45).map (·.bytes) = some 8 := by kernel_rfl
theorem s45 : (Tryd.prog.info? 45).map (·.size) = some 1 := by kernel_rfl
theorem u3 : Tryd.prog.underlying 3 = some (.int .i64) := by kernel_rfl
theorem u45 : Tryd.prog.underlying 45 = some (.int .u64) := by kernel_rfl
theorem u68 : Tryd.prog.underlying 68 = some (.int .u64) := by kernel_rfl
theorem u85 : Tryd.prog.underlying 85 = some (.slice 45) := by kernel_rfl
theorem z45 : (Tryd.prog.info? 45).bind (·.zero) = some (.int .u64 0) := by kernel_rfl
end FWideI
open FWideI
set_option maxRecDepth 20000 in
set_option maxHeartbeats 1000000 in
theorem shift_ok {w0 : World} {bl n cap N e : Nat} {l : Nat → Nat} {ty : TypeId} (hbl : Hid (w0.heap[bl]? = some (.cells (AF N l) ty (0, 0)))) (hn : n ≤ N) (hN : n < 1099511627776) (he : e ≤ 63) (hl : ∀ j, j < n → l j < BB)  :
    Fn Tryd.prog 65 [.slice (some ⟨bl, 0, none⟩) n cap, .int .i64 ((e : Nat) : Int)] w0 [] (fun r w' => ∃ b g, r = .slice (some ⟨b, 0, none⟩) (n + 1) (n + 1) ∧ w'.heap[b]? = some (.cells (AF (n + 1) g) 45 (0, 0)) ∧ w0.heap.size ≤ b ∧ Shd n e l g n) := by
  refine x_enter' (n := 42) Tryd.func65 rfl rfl (Nat.le_of_ble_eq_true rfl) fun a w st => ?_
  refine x_seq ?_
  refine x_region ?_
  refine xseg 1 st rfl ?_
  clear st a; intro a st
  refine x_nil ?_
  refine x_seq ?_
  refine x_region ?_
  refine xseg 1 st rfl ?_
  clear st a; intro a st
  refine x_run (v := .int .i64 ((n : Nat) : Int)) st (r_len st rfl rfl u85) rfl rfl (by decide) ?_
  clear st a; intro a st
  refine xp st (.int .i64 ((n + 1 : Nat) : Int)) rfl (wi64 (by omega) (by omega)) rfl rfl (by decide) ?_
  clear st a; intro a st
  refine x_make (l := n + 1) (c := n + 1) st rfl rfl rfl u85 z45 s45 bt45 rfl rfl (by decide) (by omega) (by omega) (by omega) ?_
  clear st a; intro a w b1 st
  replace st := st.cast rfl (show _ = ([(b1, .cells (AF (n + 1) (fun _ => 0)) 45 (0, 0))] : Hp) from by rw [made1])
  refine xseg 1 st rfl ?_
  clear st a; intro a st
  refine x_nil ?_
  refine x_seq ?_
  refine x_seq ?_
  refine x_region ?_
  refine xseg 1 st rfl ?_
  clear st a; intro a st
  refine x_run (v := .int .i64 ((n : Nat) : Int)) st (r_len st rfl rfl u85) rfl rfl (by decide) ?_
  clear st a; intro a st
  refine xseg 1 st rfl ?_
  clear st a; intro a st
  refine x_nil ?_
  refine wp_block ?_
  refine x_loop (G := Nat) (fun k a w => ∃ g, St w0 [] 42 [(0, .slice (some ⟨bl, 0, none⟩) n cap), (1, .int .i64 ((e : Nat) : Int)), (5, .slice (some ⟨b1, 0, none⟩) (n + 1) (n + 1)), (12, .slice (some ⟨bl, 0, none⟩) n cap), (13, .int .i64 ((n : Nat) : Int)), (14, .int .i64 ((k : Nat) : Int))] ([(b1, .cells (AF (n + 1) g) 45 (0, 0))] : Hp) a w ∧ (k ≤ n) ∧ (Shd n e l g k)) (fun k => n - k) 0 ⟨_, st.pickTo [0, 1, 5, 12, 13, 14] (by kernel_rfl), by omega, Shd.start n e l⟩ ?_
  clear st a w; intro k a w ⟨g, st, hk, hS⟩
  refine x_seq ?_
  refine x_region ?_
  refine xseg 1 st rfl ?_
  clear st a; intro a st
  refine x_nil ?_
  refine x_seq ?_
  refine x_condD st rfl (fun hc3 => ?_) (fun hc3 => ?_)
  · refine wp_skip ?_
    refine x_seq ?_
    refine wp_block ?_
    refine x_seq ?_
    refine x_region ?_
    refine xseg 1 st rfl ?_
    clear st a; intro a st
    refine x_run (v := .pointer (some ⟨bl, k, none⟩)) st (r_index st rfl rfl rfl (run_indexS' (k := k) (off := k) u85 s45 (by omega) (by first | rfl | omega) _)) rfl rfl (by decide) ?_
    clear st a; intro a st
    refine x_run (v := .int .u64 ((l k : Nat) : Int)) st (r_load st rfl rfl (run_load1 (st.old hbl.out (by simp)) u45 rfl (AF_get (by omega)))) rfl rfl (by decide) ?_
    clear st a; intro a st
    refine xseg 2 st rfl ?_
    clear st a; intro a st
    refine x_nil ?_
    refine x_seq ?_
    have hlk := hl k (by omega)
    have hgk := hS.lt k (by omega)
    have hlB : l k < 18446744073709551616 := hlk
    refine x_region ?_
    refine xseg 2 st rfl ?_
    clear st a; intro a st
    refine x_run (v := .pointer (some ⟨b1, k, none⟩)) st (r_index st rfl rfl rfl (run_indexS' (k := k) (off := k) u85 s45 (by omega) (by first | rfl | omega) _)) rfl rfl (by decide) ?_
    clear st a; intro a st
    refine x_run (v := .int .u64 ((g k : Nat) : Int)) st (r_load st rfl rfl (run_load1 (st.at 0 rfl) u45 rfl (AF_get (by omega)))) rfl rfl (by decide) ?_
    clear st a; intro a st
    refine xseg 2 st rfl ?_
    clear st a; intro a st
    refine x_run (v := .int .u64 ((e : Nat) : Int)) st (r_conv (z := ((e : Nat) : Int)) st rfl rfl u3 u68 (cvu64 (by omega))) rfl rfl (by decide) ?_
    clear st a; intro a st
    refine x_run (v := .int .u64 ((l k * 2 ^ e % BB : Nat) : Int)) st (r_num (v := .int .u64 ((l k * 2 ^ e % BB : Nat) : Int)) st rfl rfl rfl (run_shlN (by omega) rfl _)) rfl rfl (by decide) ?_
    clear st a; intro a st
    refine x_run (v := .int .u64 ((g k + l k * 2 ^ e % BB : Nat) : Int)) st (r_num (v := .int .u64 ((g k + l k * 2 ^ e % BB : Nat) : Int)) st rfl rfl rfl (run_orN hgk (Nat.mod_lt _ (by decide)) (shl_or (by omega) hS.top) _)) rfl rfl (by decide) ?_
    clear st a; intro a st
    refine x_run (v := .pointer (some ⟨b1, k, none⟩)) st (r_index st rfl rfl rfl (run_indexS' (k := k) (off := k) u85 s45 (by omega) (by first | rfl | omega) _)) rfl rfl (by decide) ?_
    clear st a; intro a st
    refine x_store st 0 rfl rfl rfl rfl (run_store1' (st.at 0 rfl) s45 rfl (by rw [AF_size]; omega) AF_set) rfl rfl ?_
    clear st a w; intro a w st
    replace st := st.cast rfl (show _ = ([(b1, .cells (AF (n + 1) (upd g k (g k + l k * 2 ^ e % BB))) 45 (0, 0))] : Hp) from rfl)
    refine x_nil ?_
    refine x_seq ?_
    refine x_region ?_
    refine xseg 2 st rfl ?_
    clear st a; intro a st
    refine x_nil ?_
    refine x_condD st rfl (fun h6 => ?_) (fun h6 => ?_)
    · refine x_region ?_
      refine xseg 2 st rfl ?_
      clear st a; intro a st
      refine xp st (.int .i64 ((k + 1 : Nat) : Int)) rfl (wi64 (by omega) (by omega)) rfl rfl (by decide) ?_
      clear st a; intro a st
      refine xseg 2 st rfl ?_
      clear st a; intro a st
      refine xp st (.int .i64 ((64 - e : Nat) : Int)) rfl (wi64 (by omega) (by omega)) rfl rfl (by decide) ?_
      clear st a; intro a st
      refine x_run (v := .int .u64 ((64 - e : Nat) : Int)) st (r_conv (z := ((64 - e : Nat) : Int)) st rfl rfl u3 u68 (cvu64 (by omega))) rfl rfl (by decide) ?_
      clear st a; intro a st
      refine x_run (v := .int .u64 ((l k / 2 ^ (64 - e) : Nat) : Int)) st (r_num (v := .int .u64 ((l k / 2 ^ (64 - e) : Nat) : Int)) st rfl rfl rfl (run_shrN rfl hlB _)) rfl rfl (by decide) ?_
      clear st a; intro a st
      refine x_run (v := .pointer (some ⟨b1, (k + 1), none⟩)) st (r_index st rfl rfl rfl (run_indexS' (k := k + 1) (off := (k + 1)) u85 s45 (by omega) (by first | rfl | omega) _)) rfl rfl (by decide) ?_
      clear st a; intro a st
      refine x_store st 0 rfl rfl rfl rfl (run_store1' (st.at 0 rfl) s45 rfl (by rw [AF_size]; omega) AF_set) rfl rfl ?_
      clear st a w; intro a w st
      replace st := st.cast rfl (show _ = ([(b1, .cells (AF (n + 1) (upd (upd g k (g k + l k * 2 ^ e % BB)) (k + 1) (l k / 2 ^ (64 - e)))) 45 (0, 0))] : Hp) from rfl)
      refine x_nil ?_
      refine x_region ?_
      refine xp st (.int .i64 ((k + 1 : Nat) : Int)) rfl (wi64 (by omega) (by omega)) rfl rfl (by decide) ?_
      clear st a; intro a st
      refine xseg 1 st rfl ?_
      clear st a; intro a st
      refine x_nil ?_
      exact ⟨k + 1, ⟨_, st.pickTo [0, 1, 5, 12, 13, 14] (by kernel_rfl), by omega, hS.step (by omega) (by omega) hlk⟩, by omega⟩
    · refine wp_skip ?_
      refine x_region ?_
      refine xp st (.int .i64 ((k + 1 : Nat) : Int)) rfl (wi64 (by omega) (by omega)) rfl rfl (by decide) ?_
      clear st a; intro a st
      refine xseg 1 st rfl ?_
      clear st a; intro a st
      refine x_nil ?_
      exact ⟨k + 1, ⟨_, st.pickTo [0, 1, 5, 12, 13, 14] (by kernel_rfl), by omega, hS.stepZ (by omega) (by omega) hlk⟩, by omega⟩
  · refine wp_exit ?_
    refine x_thenExit ?_
    refine x_thenExit ?_
    refine x_inBlock ?_
    refine x_seq ?_
    obtain rfl : n = k := by omega
    refine x_region ?_
    refine xseg 2 st rfl ?_
    clear st a; intro a st
    refine x_nil ?_
    refine x_wpret ?_
    exact x_retp st [.slice (some ⟨b1, 0, none⟩) (n + 1) (n + 1)] rfl ⟨rfl, trivial⟩ rfl (⟨_, g, rfl, st.at 0 rfl, (st.own _ (List.mem_of_getElem? (i := 0) rfl)).resolve_left (by simp), hS⟩)

end Go.Proofs.YtnkbhmonceiocaaDoor
