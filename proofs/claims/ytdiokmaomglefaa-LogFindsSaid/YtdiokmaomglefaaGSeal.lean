/- frame.Seal of a body of 1 to 64 bytes: its head, and sixteen bytes more than the body. -/
import Derived.Test.YtdiokmaomglefaaGASeal
import Derived.Test.YtdiokmaomglefaaGRead
namespace Go.Proofs.Ytdiokmaomglefaa
open Go Go.RowKit

set_option linter.unusedSimpArgs false in
set_option maxRecDepth 100000 in
set_option maxHeartbeats 4000000 in
theorem fseal_any (h : Hd) (hok : hdOk h = true) (ks : List UInt8) (hk : ks.length = 32) (v : Value) (l : List UInt8) (hl1 : 1 ≤ l.length) (hl2 : l.length ≤ 64) (hlen : h.len = l.length) (w : World) (hb : Bt w v l) :
    Calls Try.prog 21 #[.agg (hv h), .agg (ks.map bv).toArray, v] w fun e w' => (∃ (v' : Value) (x : List UInt8), x.length = l.length + 16 ∧ e = .returned (.tuple #[v', .int .i64 0]) ∧ Bt w' v' (hdW h ++ x)) ∧ Below w.heap.size w w' := by
  obtain ⟨i0, hi, hz0, hz1, hz2⟩ := info_parts info_u8
  have HOK := Lib.hid hok
  obtain ⟨k, a, n, s, p, rfl, hk3, ha, hn, hs, hp⟩ := hd_nat hok
  have hnl : n = l.length := by simp only at hlen; omega
  subst hnl
  have HK := Lib.hid hk
  have HP := Lib.hid hb
  obtain ⟨ap, cp, rfl, _⟩ := id hb
  simp only [hv]
  have hi32 : (Try.prog.info? 55).map (·.size) = some (ks.map bv).length := by rw [List.length_map, hk]; kernel_rfl
  have h3 := two_alloc (w := w) (o1 := .cells #[.int .i64 k, .int .i64 a, .int .i64 l.length, .int .i64 s, .int .i64 p] 46) (o2 := .cells (ks.map bv).toArray 55) rfl
  have q0 := (cell_of_block h3.1 0).trans rfl
  have q1 := (cell_of_block h3.1 1).trans rfl
  have q2 := (cell_of_block h3.1 2).trans rfl
  have q3 := (cell_of_block h3.1 3).trans rfl
  have q4 := (cell_of_block h3.1 4).trans rfl
  have hne : ((l.length : Int) != (l.length : Int)) = false := by simp
  clear h3 hk hok hb hlen
  go_enter Try.func21, Try.ntmps21
  go_wp2_with fail
  refine calls_world (fun w0 e0 => ?_)
  obtain ⟨g1, g2, hb0, hs0⟩ := two_alloc e0
  clear e0 q0 q1 q2 q3 q4
  refine (write_any ⟨k, a, l.length, s, p⟩ HOK.out w0).mono ?_
  rintro e w1 ⟨⟨v1, rfl, hown1⟩, hb1⟩
  obtain ⟨a1, c1, rfl, _⟩ := own_rw hown1
  have HO1 := Lib.hid (owns_base hown1 (show w.heap.size ≤ w0.heap.size by omega))
  have HB1 := Lib.hid (hb0.trans (hb1.mono (by omega)))
  have gA := blk_on g1 hb1
  have G2 := Lib.hid (blk_on g2 hb1)
  have r2 := range_of_block (cs := ks.map bv) G2.out
  have hlA := block_lt gA
  have g0 : ∀ wz, Below w1.heap.size w1 wz → wz.cell? ⟨w.heap.size, 0, none⟩ = some (.int .i64 k) := fun wz hz => (hz.cell (p := ⟨w.heap.size, 0, none⟩) hlA).trans ((cell_of_block gA 0).trans rfl)
  have g1' : ∀ wz, Below w1.heap.size w1 wz → wz.cell? ⟨w.heap.size, 1, none⟩ = some (.int .i64 a) := fun wz hz => (hz.cell (p := ⟨w.heap.size, 1, none⟩) hlA).trans ((cell_of_block gA 1).trans rfl)
  have g2' : ∀ wz, Below w1.heap.size w1 wz → wz.cell? ⟨w.heap.size, 2, none⟩ = some (.int .i64 l.length) := fun wz hz => (hz.cell (p := ⟨w.heap.size, 2, none⟩) hlA).trans ((cell_of_block gA 2).trans rfl)
  have g3 : ∀ wz, Below w1.heap.size w1 wz → wz.cell? ⟨w.heap.size, 3, none⟩ = some (.int .i64 s) := fun wz hz => (hz.cell (p := ⟨w.heap.size, 3, none⟩) hlA).trans ((cell_of_block gA 3).trans rfl)
  have g4 : ∀ wz, Below w1.heap.size w1 wz → wz.cell? ⟨w.heap.size, 4, none⟩ = some (.int .i64 p) := fun wz hz => (hz.cell (p := ⟨w.heap.size, 4, none⟩) hlA).trans ((cell_of_block gA 4).trans rfl)
  clear g1 g2 hb0 hs0 hb1 hown1 gA hlA
  go_wp2
  refine wp_region_noPanic ?_
  refine wp_region_held_drew (S := (fun w' => Below w1.heap.size w1 w')) (by kernel_rfl) ?_ (fun hHeld => ?_)
  · exact below_self_drew _
  refine takeL 0 (v := _) rfl (by kernel_rfl) (by kernel_rfl) (by kernel_rfl) (fun _ _ _ h => h) (yieldsIf_load_mid (by rfl) _ _ rfl _ _ rfl (ks.map bv) _ (fun w hSw => range_below r2 hSw (block_lt G2.out)) Try.underlying55 rfl hi32) (by assumption) ?_
  (try simp only [Act.put, List.setIfInBounds_toArray, List.set_cons_zero, List.set_cons_succ])
  refine takeL 1 (v := ?_) rfl (by kernel_rfl) (by kernel_rfl) (by kernel_rfl) (fun _ _ _ h => h) (Or.inl ⟨by rfl, ?_⟩) (by assumption) ?_
  rotate_left
  · (intro w hSw; go_simp; try with_reducible rfl)
  (try simp only [Act.put, List.setIfInBounds_toArray, List.set_cons_zero, List.set_cons_succ])
  refine takeL 3 (v := ?_) rfl (by kernel_rfl) (by kernel_rfl) (by kernel_rfl) (fun _ _ _ h => h) (Or.inl ⟨by rfl, ?_⟩) (by assumption) ?_
  rotate_left
  · (intro w hSw; go_simp; try with_reducible rfl)
  (try simp only [Act.put, List.setIfInBounds_toArray, List.set_cons_zero, List.set_cons_succ])
  refine takeL 4 (v := ?_) rfl (by kernel_rfl) (by kernel_rfl) (by kernel_rfl) (fun _ _ _ h => h) (Or.inl ⟨by rfl, ?_⟩) (by assumption) ?_
  rotate_left
  · (intro w hSw; go_simp; try with_reducible rfl)
  (try simp only [Act.put, List.setIfInBounds_toArray, List.set_cons_zero, List.set_cons_succ])
  refine stepL 2 rfl (by kernel_rfl) (fun K hK => ?_)
  (go_simp; go_at_call 39; refine (nonce_any k a l.length s p (by omega) (by omega) w1.drew).mono ?_; rintro e wn ⟨⟨ln, hln, rfl⟩, hbn⟩; have HBN := Lib.hid ((below_self_drew w1).trans hbn); have HLN := Lib.hid hln; clear hbn hln)
  refine hK.out _ _ ?_ (fun hHeld => ?_)
  · exact HBN.out
  clear hK K
  (try simp only [Act.put, List.setIfInBounds_toArray, List.set_cons_zero, List.set_cons_succ])
  refine stepL 5 rfl (by kernel_rfl) (fun K hK => ?_)
  (go_simp; go_at_call 38; refine (aseal_any ks ln HK.out HLN.out _ _ l (hdW ⟨k, a, l.length, s, p⟩) hl1 hl2 (by rw [hdW_length]; omega) wn (HP.out.below (HB1.out.trans (HBN.out.mono HB1.out.size))) ((own_bt (B := w.heap.size) (e := 5) (by rw [hdW_length]; exact HO1.out) (by rw [hdW_length]; omega)).below HBN.out)).mono ?_; rintro e ws ⟨⟨vs, ls, hls, rfl, hbt⟩, hbs⟩; have HBS := Lib.hid (HBN.out.trans (hbs.mono HBN.out.size)); have HLS := Lib.hid hls; have HBT := Lib.hid hbt; clear hbs hls hbt)
  refine hK.out _ _ ?_ (fun hHeld => ?_)
  · exact HBS.out
  clear hK K
  (try simp only [Act.put, List.setIfInBounds_toArray, List.set_cons_zero, List.set_cons_succ])
  refine takeL 6 (v := ?_) rfl (by kernel_rfl) (by kernel_rfl) (by kernel_rfl) (fun _ _ _ h => h) (Or.inl ⟨by rfl, ?_⟩) (by assumption) ?_
  rotate_left
  · (intro w hSw; go_simp; try with_reducible rfl)
  (try simp only [Act.put, List.setIfInBounds_toArray, List.set_cons_zero, List.set_cons_succ])
  refine takeL 7 (v := ?_) rfl (by kernel_rfl) (by kernel_rfl) (by kernel_rfl) (fun _ _ _ h => h) (Or.inl ⟨by rfl, ?_⟩) (by assumption) ?_
  rotate_left
  · (intro w hSw; go_simp; try with_reducible rfl)
  (try simp only [Act.put, List.setIfInBounds_toArray, List.set_cons_zero, List.set_cons_succ])
  refine takeL 8 (v := ?_) rfl (by kernel_rfl) (by kernel_rfl) (by kernel_rfl) (fun _ _ _ h => h) (Or.inl ⟨by rfl, ?_⟩) (by assumption) ?_
  rotate_left
  · (intro w hSw; go_simp; try with_reducible rfl)
  (try simp only [Act.put, List.setIfInBounds_toArray, List.set_cons_zero, List.set_cons_succ])
  refine takeL 9 (v := ?_) rfl (by kernel_rfl) (by kernel_rfl) (by kernel_rfl) (fun _ _ _ h => h) (Or.inl ⟨by rfl, ?_⟩) (by assumption) ?_
  rotate_left
  · (intro w hSw; go_simp; try with_reducible rfl)
  (try simp only [Act.put, List.setIfInBounds_toArray, List.set_cons_zero, List.set_cons_succ])
  refine takeL 10 (v := ?_) rfl (by kernel_rfl) (by kernel_rfl) (by kernel_rfl) (fun _ _ _ h => h) (Or.inl ⟨by rfl, ?_⟩) (by assumption) ?_
  rotate_left
  · (intro w hSw; go_simp; try with_reducible rfl)
  (try simp only [Act.put, List.setIfInBounds_toArray, List.set_cons_zero, List.set_cons_succ])
  refine wpAnyH_done (by kernel_rfl) ?_ _
  refine NoPanic.normal ?_
  have hown9 := owns_below HO1.out HBS.out
  have hsrc := HBT.out.rw
  rw [HLS.out] at hsrc
  have HBW := Lib.hid (HB1.out.trans (HBS.out.mono HB1.out.size))
  clear r2 g0 g1' g2' g3 g4
  obtain ⟨as9, cs9, rfl, _⟩ := id HBT.out
  go_wp2_with (at_builtin
               refine wpList_append_rw _ rfl (.tmp 36) (.tmp 37) 24 rfl w.heap.size 5 i0 (.int .u8 0) 1 1 Try.underlying24 hi hz0 hz1 hz2 rfl (by decide) (.slice a1 24 c1) 24 ((hdW ⟨k, a, l.length, s, p⟩).map bv) rfl hown9 _ (l.length + 16) _ rfl hsrc (bv_one _) (by unfold maxLen; omega) (by omega) HBW.out.size ?_
               intro v4 w4 hown4 hg4
               have HB4 := Lib.hid (HBW.out.grown hg4 HBW.out.size (fun k e => (hown9.lt k e).1))
               have HO4 := Lib.hid hown4
               clear hown9 hown4 hsrc hg4)
  refine bodyPost_ret (results_tmp2 rfl _ _ _) rfl ?_
  refine ⟨⟨v4, ls, HLS.out, rfl, ?_⟩, HB4.out⟩
  refine own_bt (B := w.heap.size) (e := 5) ?_ (by rw [List.length_append, hdW_length, HLS.out]; omega)
  rw [List.length_append, hdW_length, HLS.out, List.map_append]
  exact HO4.out
end Go.Proofs.Ytdiokmaomglefaa
