/- The key of a number. -/
import Derived.Test.YtkllljgnpcmojaaWipeR
namespace Go.Proofs.Ytkllljgnpcmojaa
open Go Go.RowKit

/-- The key of a number below 256. -/
def nk (n : Nat) : Key := ⟨UInt8.ofNat n :: (List.replicate 30 0 ++ [1]), by simp⟩
theorem kc_nk0 : #[Value.int .u8 0, .int .u8 0, .int .u8 0, .int .u8 0, .int .u8 0, .int .u8 0, .int .u8 0, .int .u8 0, .int .u8 0, .int .u8 0, .int .u8 0, .int .u8 0, .int .u8 0, .int .u8 0, .int .u8 0, .int .u8 0, .int .u8 0, .int .u8 0, .int .u8 0, .int .u8 0, .int .u8 0, .int .u8 0, .int .u8 0, .int .u8 0, .int .u8 0, .int .u8 0, .int .u8 0, .int .u8 0, .int .u8 0, .int .u8 0, .int .u8 0, .int .u8 1] = (kc (nk 0)).toArray := by
  simp [kc, nk, bv, List.replicate]
theorem wpList_store_fresh {ops : Array Oper} {rest : List Oper} {op : Oper} {a : Act} {w : World} {Q : Exit → Act → World → Prop} (hgd : op.guard = none) (x y : Operand) (ho : op.op = .store 26 x y)
    (k : Key) (wr : World) (zs : Array Value) (g : Nat) (hw : w = wr.alloc (.cells zs 26)) (hzs : zs.size = 32) (hgz : wr.heap.size = g)
    (hx : a.eval x = .pointer (some ⟨g, 0, none⟩)) (hy : a.eval y = .agg (kc k).toArray)
    (h : ∀ w5 : World, w5.heap[g]? = some (.cells (kc k).toArray 26 (0, 0)) → Below g wr w5 → w5.heap.size = g + 1 → wpList Try.prog ops Q rest (a.put op.dst undef) w5) : wpList Try.prog ops Q (op :: rest) a w := by
  subst hgz
  exact wpList_store_new hgd x y ho k wr zs hw hzs hx hy h

theorem nk_first (n : Nat) (hn : n < 256) : (kc (nk 0)).toArray.setIfInBounds 0 (.int .u8 n) = (kc (nk n)).toArray := by
  simp [kc, nk, bv]
  omega
theorem nk_zero (n j : Nat) (h1 : 1 ≤ j) (h2 : j < 8) : (kc (nk n)).toArray.setIfInBounds j (.int .u8 0) = (kc (nk n)).toArray := by
  obtain rfl | rfl | rfl | rfl | rfl | rfl | rfl : j = 1 ∨ j = 2 ∨ j = 3 ∨ j = 4 ∨ j = 5 ∨ j = 6 ∨ j = 7 := by omega
  all_goals simp [kc, nk, bv, List.replicate]
set_option maxRecDepth 100000 in
set_option maxHeartbeats 2000000 in
theorem key_any (n : Nat) (w : World) (hn : n < 256) :
    Calls Try.prog 24 #[.int .i64 n] w fun e w' => e = .returned (.agg (kc (nk n)).toArray) ∧ Below w.heap.size w w' := by
  go_enter Try.func24, Try.ntmps24
  go_wp2_with (((refine wpList_store_fresh (by rfl) _ _ (by rfl) (nk 0) _ _ (w.heap.size + 1) (by rfl) (by rfl) (by simp) (by rfl) (by exact congrArg Value.agg kc_nk0) ?_)); intro w5 hD hb5 hs5)
  obtain ⟨W1, hW1⟩ : ∃ W1, w.alloc (.cells (kc k0).toArray 26) = W1 := ⟨_, rfl⟩
  have hb1 : Below w.heap.size w W1 := hW1 ▸ (Below.refl _ w).alloc (Nat.le_refl _) _
  have hR1 : W1.heap[w.heap.size]? = some (.cells (kc k0).toArray 26 (0, 0)) := hW1 ▸ heap_alloc_new w _
  rw [kc_zero, hW1] at hb5
  have hs1 : W1.heap.size = w.heap.size + 1 := by rw [← hW1]; simp
  obtain ⟨B, hB⟩ : ∃ B, w.heap.size = B := ⟨_, rfl⟩
  rw [hB] at hD hb5 hs5 hb1 hR1 hs1
  rw [hB]
  have HB := Lib.hid hB
  clear hB hW1
  go_loopw [4] (fun i wr => ∃ j : Nat, j ≤ 8 ∧ i = .int .i64 j ∧ wr.heap[B + 1]? = some (.cells (kc (nk (if j = 0 then 0 else n))).toArray 26 (0, 0)) ∧ Below (B + 1) W1 wr) (fun i _ => 8 - (intOf i).toNat)
  case atStart => exact ⟨0, by omega, rfl, hD, hb5⟩
  case round =>
    obtain ⟨j, hj, rfl, hDr, hbr⟩ := hrel
    clear hD hb5
    have hfz : ∀ i, wr.frozen? ⟨B + 1, i, none⟩ = false := fun i => frozen_of_row wr (B + 1) i _ _ hDr
    have hcc : ∀ i, i < 32 → ∃ v, wr.cell? ⟨B + 1, i, none⟩ = some v := fun i hi => ⟨(kc (nk (if j = 0 then 0 else n))).toArray[i]'(by rw [kc_size]; exact hi), by rw [cell_of_block hDr]; simp [kc_length, hi]⟩
    by_cases h8 : j < 8
    · obtain rfl | h1 : j = 0 ∨ 1 ≤ j := by omega
      · obtain ⟨v, hv⟩ := hcc 0 (by omega)
        have hf := hfz 0
        clear hfz hcc
        go_wp2
        go_roundw
        case rel =>
          refine ⟨1, by omega, rfl, ?_, hbr.setCell (p := ⟨B + 1, 0, none⟩) (Nat.le_refl _) _⟩
          rw [heap_setCell_same _ _ _ _ _ _ hDr]
          exact congrArg (fun c => some (Obj.cells c _ (0, 0))) (nk_first n hn)
        case measure => simp [intOf]
      · obtain ⟨v, hv⟩ := hcc j (by omega)
        have hf := hfz j
        clear hfz hcc
        have q1 : (n : Int) / 256 = 0 := by omega
        have q2 : (n : Int) / 65536 = 0 := by omega
        have q3 : (n : Int) / 16777216 = 0 := by omega
        have q4 : (n : Int) / 4294967296 = 0 := by omega
        have q5 : (n : Int) / 1099511627776 = 0 := by omega
        have q6 : (n : Int) / 281474976710656 = 0 := by omega
        have q7 : (n : Int) / 72057594037927936 = 0 := by omega
        have hz := nk_zero n j h1 h8
        rw [if_neg (by omega)] at hDr
        have hD2 := (heap_setCell_same wr (B + 1) j _ _ (.int .u8 0) hDr).trans (congrArg (fun c => some (Obj.cells c _ (0, 0))) hz)
        have hB2 : Below (B + 1) W1 (wr.setCell ⟨B + 1, j, none⟩ (.int .u8 0)) := hbr.setCell (p := ⟨B + 1, j, none⟩) (Nat.le_refl _) _
        clear hz hDr hbr
        obtain ⟨m, hm⟩ : ∃ m, m = j + 1 := ⟨_, rfl⟩
        have HM := Lib.hid hm
        clear hm
        obtain rfl | rfl | rfl | rfl | rfl | rfl | rfl : j = 1 ∨ j = 2 ∨ j = 3 ∨ j = 4 ∨ j = 5 ∨ j = 6 ∨ j = 7 := by omega
        all_goals
          go_wp2
          go_roundw
          case rel =>
            have hm := HM.out
            refine ⟨m, by omega, by subst hm; rfl, ?_, hB2⟩
            rw [if_neg (by omega)]
            exact hD2
          case measure => simp [intOf]
    · obtain rfl : j = 8 := by omega
      rw [if_neg (by decide)] at hDr
      clear hfz hcc
      have hR2 := (hbr.block B (by omega)).trans hR1
      have hs8 := hbr.size
      go_wp2_with (first
        | (refine wpList_load_at (by rfl) 26 _ rfl (B + 1) 0 rfl (kc (nk n)) _ (range_of_block hDr) Try.underlying26 rfl (key_info _) ?_)
        | ((refine wpList_store_known (by rfl) _ _ (by rfl) (nk n) B k0 hR2 (by rfl) (by rfl) ?_); intro w7 hD7 hb7 hs7))
      (try simp only [Exit.inBlock, Exit.then])
      refine bodyPost_ret (results_cell_row rfl _ _ B _ _ _ _ rfl hD7 Try.underlying26 rfl (by rw [kc_size]; exact info_key)) rfl ?_
      rw [HB.out]
      exact ⟨rfl, hb1.trans ((hbr.mono (by omega)).trans hb7)⟩
end Go.Proofs.Ytkllljgnpcmojaa
