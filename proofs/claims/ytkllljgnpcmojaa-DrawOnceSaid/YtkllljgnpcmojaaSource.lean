/- So many keys of numbers. -/
import Derived.Test.YtkllljgnpcmojaaKey
import Derived.Test.YtkllljgnpcmojaaRegion
namespace Go.Proofs.Ytkllljgnpcmojaa
open Go Go.RowKit

theorem own_form {w : World} {B n sz : Nat} {e : TypeId} {v : Value} {xs : List Value} (h : w.ownsRow B e sz v (n + 1) xs) : ∃ g cap, v = .slice (some ⟨g, 0, none⟩) (n + 1) cap ∧ B ≤ g := by
  rcases h.2 with ⟨_, h0⟩ | ⟨g, cap, cur, e, hB, _⟩
  · cases h0
  · exact ⟨g, cap, e, hB⟩
set_option linter.unusedSimpArgs false in
set_option maxRecDepth 100000 in
set_option maxHeartbeats 4000000 in
theorem source_any (n : Nat) (w : World) (hn : n < 256) :
    Calls Try.prog 23 #[.int .i64 n] w fun e w' => (∃ v, e = .returned (.agg #[v, .int .i64 0]) ∧ Ks w' v ((List.range n).map nk)) ∧ Below w.heap.size w w' := by
  have hz24 := Try.zeroValue24
  go_enter Try.func23, Try.ntmps23
  go_wp2_with fail
  obtain ⟨hR, hS, hb0, hs0⟩ := two_blocks (Below.refl _ ((w.alloc (.cells #[.slice none 0 0, .int .i64 0] 24)).alloc (.cells #[.slice none 0 0, .int .i64 0] 24)))
  have hb1 : Below (w.heap.size + 1) (w.alloc (.cells #[.slice none 0 0, .int .i64 0] 24)) ((w.alloc (.cells #[.slice none 0 0, .int .i64 0] 24)).alloc (.cells #[.slice none 0 0, .int .i64 0] 24)) := (Below.refl _ _).alloc (by simp) _
  obtain ⟨W, hW⟩ : ∃ W, (w.alloc (.cells #[.slice none 0 0, .int .i64 0] 24)).alloc (.cells #[.slice none 0 0, .int .i64 0] 24) = W := ⟨_, rfl⟩
  rw [hW] at hR hS hb0 hs0
  rw [hW]
  obtain ⟨B, hB⟩ : ∃ B, w.heap.size = B := ⟨_, rfl⟩
  rw [hB] at hR hS hb0 hs0
  rw [hB]
  have HB := Lib.hid hB
  clear hB hW hb1
  go_loopw [4] (fun i wr => ∃ (j : Nat) (v : Value), j ≤ n ∧ i = .int .i64 j ∧ wr.heap[B + 1]? = some (.cells #[v, .int .i64 0] 24 (0, 0)) ∧ wr.ownsRow (B + 2) 26 32 v j (kcs ((List.range j).map nk)) ∧ Below (B + 1) W wr ∧ B + 2 ≤ wr.heap.size) (fun i _ => n - (intOf i).toNat)
  case atStart => exact ⟨0, _, by omega, rfl, hS, World.ownsRow_nil _ _ _ _, Below.refl _ _, hs0⟩
  case round =>
    obtain ⟨j, v, hj, rfl, hSr, hown, hbr, hsr⟩ := hrel
    by_cases hlt : j < n
    · have hl : ∀ w', Below wr.heap.size wr w' → w'.cell? ⟨B + 1, 0, none⟩ = some v := fun w' hw => (hw.cell (p := ⟨B + 1, 0, none⟩) (block_lt hSr)).trans ((cell_of_block hSr 0).trans rfl)
      have hk32 := kc_length (nk j)
      have hsn : kcs ((List.range (j + 1)).map nk) = kcs ((List.range j).map nk) ++ kcs [nk j] := by rw [List.range_succ, List.map_append, kcs_append]; rfl
      have HSN := Lib.hid hsn
      clear hsn
      go_wp2_with fail
      refine wp_region_noPanic ?_
      refine wp_region_held_drew (S := (fun _ => True)) (by kernel_rfl) ?_ (fun hHeld => ?_)
      · trivial
      refine takeL 0 (v := ?_) rfl (by kernel_rfl) (by kernel_rfl) (by kernel_rfl) (fun _ _ _ h => h) (Or.inl ⟨by rfl, ?_⟩) (by assumption) ?_
      rotate_left
      · (intro w hSw; go_simp; try with_reducible rfl)
      (try simp only [Act.put, List.setIfInBounds_toArray, List.set_cons_zero, List.set_cons_succ])
      refine takeL 2 (v := ?_) rfl (by kernel_rfl) (by kernel_rfl) (by kernel_rfl) (fun _ _ _ h => h) (Or.inl ⟨by rfl, ?_⟩) (by assumption) ?_
      rotate_left
      · (intro w hSw; go_simp; try with_reducible rfl)
      (try simp only [Act.put, List.setIfInBounds_toArray, List.set_cons_zero, List.set_cons_succ])
      refine wpAnyH_ready (rs := [1, 3]) (by kernel_rfl) (by simp) ?_
      refine consL 1 rfl ?_ (fun K hK => ?_)
      rotate_left
      · skip
        ((first | (have hb6 := below_next hb5 (below_self_drew wr); have hl1 := hl _ hb6; have hl2 := hl _ (hb6.alloc hb6.size (.cells (kc (nk j)).toArray 26))) | (have hl1 := hl _ (below_self_drew wr))); go_simp)
        refine hK.out _ _ ?_ (fun hHeld => ?_)
        · trivial
        clear hK K
        (try simp only [Act.put, List.setIfInBounds_toArray, List.set_cons_zero, List.set_cons_succ])
        refine stepL 3 rfl (by kernel_rfl) (fun K hK => ?_)
        (go_simp; go_at_call 24; refine (key_any j _ (by omega)).mono ?_; rintro e w5 ⟨rfl, hb5⟩)
        refine hK.out _ _ ?_ (fun hHeld => ?_)
        · trivial
        clear hK K
        (try simp only [Act.put, List.setIfInBounds_toArray, List.set_cons_zero, List.set_cons_succ])
        refine stepL 4 rfl (by kernel_rfl) (fun K hK => ?_)
        (go_simp; rw [fold_key (nk j) _ rfl])
        refine hK.out _ _ ?_ (fun hHeld => ?_)
        · trivial
        clear hK K
        (try simp only [Act.put, List.setIfInBounds_toArray, List.set_cons_zero, List.set_cons_succ])
        refine stepL 5 rfl (by kernel_rfl) (fun K hK => ?_)
        (have hb6 := below_next hb5 (below_self_drew wr); refine step_append_ks _ (by rfl) _ _ (by rfl) (B + 2) _ j _ (by rfl) (owns_below hown (hb6.alloc hb6.size (.cells (kc (nk j)).toArray 26))) _ [nk j] (by rfl) (key_slice w5 (nk j)) (by simp; omega) (by have := hb6.size; simp; omega) ?_; intro v8 w8 hown8 hg8 _; obtain ⟨g, cp, rfl, hgB⟩ := own_form hown8; have hb8 : Below (B + 2) wr w8 := ((hb6.alloc hb6.size _).mono hsr).grown hg8 (by have := hb6.size; simp; omega) (fun k hk => (hown.lt k hk).1); have hS8 := (hb8.block (B + 1) (by omega)).trans hSr; have c8 : w8.cell? ⟨B + 1, 0, none⟩ = some v := (cell_of_block hS8 0).trans rfl; have f8 : w8.frozen? ⟨B + 1, 0, none⟩ = false := frozen_of_row w8 (B + 1) 0 _ _ hS8)
        refine hK.out _ _ ?_ (fun hHeld => ?_)
        · trivial
        clear hK K
        (try simp only [Act.put, List.setIfInBounds_toArray, List.set_cons_zero, List.set_cons_succ])
        refine takeL 6 (v := ?_) rfl (by kernel_rfl) (by kernel_rfl) (by kernel_rfl) (fun _ _ _ h => h) (Or.inl ⟨by rfl, ?_⟩) (by assumption) ?_
        rotate_left
        · (intro w hSw; go_simp; try with_reducible rfl)
        (try simp only [Act.put, List.setIfInBounds_toArray, List.set_cons_zero, List.set_cons_succ])
        refine stepL 7 rfl (by kernel_rfl) (fun K hK => ?_)
        go_simp
        refine hK.out _ _ ?_ (fun hHeld => ?_)
        · trivial
        clear hK K
        (try simp only [Act.put, List.setIfInBounds_toArray, List.set_cons_zero, List.set_cons_succ])
        refine wpAnyH_done (by kernel_rfl) ?_ _
        refine NoPanic.normal ?_
        go_wp2
        go_roundw
        case rel =>
          refine ⟨j + 1, _, by omega, by go_num, heap_setCell_same _ _ _ _ _ _ hS8, ?_, (hbr.trans (hb8.mono (by omega))).setCell (p := ⟨B + 1, 0, none⟩) (Nat.le_refl _) _, by have := hb8.size; simp; omega⟩
          rw [HSN.out]
          exact ownsRow_setCell_below hown8 (by show B + 1 < B + 2; omega) _
        case measure => simp [intOf]; omega
      refine consL 3 rfl ?_ (fun K hK => ?_)
      rotate_left
      · skip
        (go_simp; go_at_call 24; refine (key_any j _ (by omega)).mono ?_; rintro e w5 ⟨rfl, hb5⟩)
        refine hK.out _ _ ?_ (fun hHeld => ?_)
        · trivial
        clear hK K
        (try simp only [Act.put, List.setIfInBounds_toArray, List.set_cons_zero, List.set_cons_succ])
        refine wpAnyH_ready (rs := [1, 4]) (by kernel_rfl) (by simp) ?_
        refine consL 1 rfl ?_ (fun K hK => ?_)
        rotate_left
        · skip
          ((first | (have hb6 := below_next hb5 (below_self_drew wr); have hl1 := hl _ hb6; have hl2 := hl _ (hb6.alloc hb6.size (.cells (kc (nk j)).toArray 26))) | (have hl1 := hl _ (below_self_drew wr))); go_simp)
          refine hK.out _ _ ?_ (fun hHeld => ?_)
          · trivial
          clear hK K
          (try simp only [Act.put, List.setIfInBounds_toArray, List.set_cons_zero, List.set_cons_succ])
          refine stepL 4 rfl (by kernel_rfl) (fun K hK => ?_)
          (go_simp; rw [fold_key (nk j) _ rfl])
          refine hK.out _ _ ?_ (fun hHeld => ?_)
          · trivial
          clear hK K
          (try simp only [Act.put, List.setIfInBounds_toArray, List.set_cons_zero, List.set_cons_succ])
          refine stepL 5 rfl (by kernel_rfl) (fun K hK => ?_)
          (have hb6 := below_next hb5 (below_self_drew wr); refine step_append_ks _ (by rfl) _ _ (by rfl) (B + 2) _ j _ (by rfl) (owns_below hown (hb6.alloc hb6.size (.cells (kc (nk j)).toArray 26))) _ [nk j] (by rfl) (key_slice w5 (nk j)) (by simp; omega) (by have := hb6.size; simp; omega) ?_; intro v8 w8 hown8 hg8 _; obtain ⟨g, cp, rfl, hgB⟩ := own_form hown8; have hb8 : Below (B + 2) wr w8 := ((hb6.alloc hb6.size _).mono hsr).grown hg8 (by have := hb6.size; simp; omega) (fun k hk => (hown.lt k hk).1); have hS8 := (hb8.block (B + 1) (by omega)).trans hSr; have c8 : w8.cell? ⟨B + 1, 0, none⟩ = some v := (cell_of_block hS8 0).trans rfl; have f8 : w8.frozen? ⟨B + 1, 0, none⟩ = false := frozen_of_row w8 (B + 1) 0 _ _ hS8)
          refine hK.out _ _ ?_ (fun hHeld => ?_)
          · trivial
          clear hK K
          (try simp only [Act.put, List.setIfInBounds_toArray, List.set_cons_zero, List.set_cons_succ])
          refine takeL 6 (v := ?_) rfl (by kernel_rfl) (by kernel_rfl) (by kernel_rfl) (fun _ _ _ h => h) (Or.inl ⟨by rfl, ?_⟩) (by assumption) ?_
          rotate_left
          · (intro w hSw; go_simp; try with_reducible rfl)
          (try simp only [Act.put, List.setIfInBounds_toArray, List.set_cons_zero, List.set_cons_succ])
          refine stepL 7 rfl (by kernel_rfl) (fun K hK => ?_)
          go_simp
          refine hK.out _ _ ?_ (fun hHeld => ?_)
          · trivial
          clear hK K
          (try simp only [Act.put, List.setIfInBounds_toArray, List.set_cons_zero, List.set_cons_succ])
          refine wpAnyH_done (by kernel_rfl) ?_ _
          refine NoPanic.normal ?_
          go_wp2
          go_roundw
          case rel =>
            refine ⟨j + 1, _, by omega, by go_num, heap_setCell_same _ _ _ _ _ _ hS8, ?_, (hbr.trans (hb8.mono (by omega))).setCell (p := ⟨B + 1, 0, none⟩) (Nat.le_refl _) _, by have := hb8.size; simp; omega⟩
            rw [HSN.out]
            exact ownsRow_setCell_below hown8 (by show B + 1 < B + 2; omega) _
          case measure => simp [intOf]; omega
        refine consL 4 rfl ?_ (fun K hK => ?_)
        rotate_left
        · skip
          (go_simp; rw [fold_key (nk j) _ rfl])
          refine hK.out _ _ ?_ (fun hHeld => ?_)
          · trivial
          clear hK K
          (try simp only [Act.put, List.setIfInBounds_toArray, List.set_cons_zero, List.set_cons_succ])
          refine stepL 1 rfl (by kernel_rfl) (fun K hK => ?_)
          ((first | (have hb6 := below_next hb5 (below_self_drew wr); have hl1 := hl _ hb6; have hl2 := hl _ (hb6.alloc hb6.size (.cells (kc (nk j)).toArray 26))) | (have hl1 := hl _ (below_self_drew wr))); go_simp)
          refine hK.out _ _ ?_ (fun hHeld => ?_)
          · trivial
          clear hK K
          (try simp only [Act.put, List.setIfInBounds_toArray, List.set_cons_zero, List.set_cons_succ])
          refine stepL 5 rfl (by kernel_rfl) (fun K hK => ?_)
          (have hb6 := below_next hb5 (below_self_drew wr); refine step_append_ks _ (by rfl) _ _ (by rfl) (B + 2) _ j _ (by rfl) (owns_below hown (hb6.alloc hb6.size (.cells (kc (nk j)).toArray 26))) _ [nk j] (by rfl) (key_slice w5 (nk j)) (by simp; omega) (by have := hb6.size; simp; omega) ?_; intro v8 w8 hown8 hg8 _; obtain ⟨g, cp, rfl, hgB⟩ := own_form hown8; have hb8 : Below (B + 2) wr w8 := ((hb6.alloc hb6.size _).mono hsr).grown hg8 (by have := hb6.size; simp; omega) (fun k hk => (hown.lt k hk).1); have hS8 := (hb8.block (B + 1) (by omega)).trans hSr; have c8 : w8.cell? ⟨B + 1, 0, none⟩ = some v := (cell_of_block hS8 0).trans rfl; have f8 : w8.frozen? ⟨B + 1, 0, none⟩ = false := frozen_of_row w8 (B + 1) 0 _ _ hS8)
          refine hK.out _ _ ?_ (fun hHeld => ?_)
          · trivial
          clear hK K
          (try simp only [Act.put, List.setIfInBounds_toArray, List.set_cons_zero, List.set_cons_succ])
          refine takeL 6 (v := ?_) rfl (by kernel_rfl) (by kernel_rfl) (by kernel_rfl) (fun _ _ _ h => h) (Or.inl ⟨by rfl, ?_⟩) (by assumption) ?_
          rotate_left
          · (intro w hSw; go_simp; try with_reducible rfl)
          (try simp only [Act.put, List.setIfInBounds_toArray, List.set_cons_zero, List.set_cons_succ])
          refine stepL 7 rfl (by kernel_rfl) (fun K hK => ?_)
          go_simp
          refine hK.out _ _ ?_ (fun hHeld => ?_)
          · trivial
          clear hK K
          (try simp only [Act.put, List.setIfInBounds_toArray, List.set_cons_zero, List.set_cons_succ])
          refine wpAnyH_done (by kernel_rfl) ?_ _
          refine NoPanic.normal ?_
          go_wp2
          go_roundw
          case rel =>
            refine ⟨j + 1, _, by omega, by go_num, heap_setCell_same _ _ _ _ _ _ hS8, ?_, (hbr.trans (hb8.mono (by omega))).setCell (p := ⟨B + 1, 0, none⟩) (Nat.le_refl _) _, by have := hb8.size; simp; omega⟩
            rw [HSN.out]
            exact ownsRow_setCell_below hown8 (by show B + 1 < B + 2; omega) _
          case measure => simp [intOf]; omega
        exact AllReadyH.nil
      exact AllReadyH.nil
    · obtain rfl : j = n := by omega
      have hks := own_ks (l := (List.range j).map nk) (by simpa using hown) (by simp; omega)
      have HKS := Lib.hid hks
      have hRr := (hbr.block B (by omega)).trans hR
      have hB3 : Below B w wr := hb0.trans (hbr.mono (by omega))
      have hform := hown.2
      have c0 : wr.cell? ⟨B + 1, 0, none⟩ = some v := (cell_of_block hSr 0).trans rfl
      have c1 : wr.cell? ⟨B + 1, 1, none⟩ = some (.int .i64 0) := (cell_of_block hSr 1).trans rfl
      clear hks hSr
      rcases hform with ⟨rfl, h0⟩ | ⟨g, cp, cur, rfl, hgB, _, _, _, _, _⟩
      · go_wp2_with (refine wpList_store_row rfl 24 _ _ rfl B #[.slice none 0 0, .int .i64 0] rfl rfl 24 _ hRr info_src rfl (src_one _ _ _ _) ?_)
        have h2 : (wr.setRow B #[.slice none 0 0, .int .i64 0]).heap[B]? = some (.cells #[.slice none 0 0, .int .i64 0] 24 (0, 0)) := setRow_heap _ _ _ _ _ _ hRr
        (try simp only [Exit.inBlock, Exit.then])
        refine bodyPost_ret (results_cell_row rfl _ _ B _ _ _ _ rfl h2 Try.underlying24 rfl info_src) rfl ?_
        rw [HB.out]
        subst h0
        exact ⟨⟨_, rfl, ks_nil _⟩, below_setRow hB3 (Nat.le_refl _) _⟩
      · go_wp2_with (refine wpList_store_row rfl 24 _ _ rfl B #[.slice (some ⟨g, 0, none⟩) j cp, .int .i64 0] rfl rfl 24 _ hRr info_src rfl (src_one _ _ _ _) ?_)
        have h2 : (wr.setRow B #[.slice (some ⟨g, 0, none⟩) j cp, .int .i64 0]).heap[B]? = some (.cells #[.slice (some ⟨g, 0, none⟩) j cp, .int .i64 0] 24 (0, 0)) := setRow_heap _ _ _ _ _ _ hRr
        (try simp only [Exit.inBlock, Exit.then])
        refine bodyPost_ret (results_cell_row rfl _ _ B _ _ _ _ rfl h2 Try.underlying24 rfl info_src) rfl ?_
        rw [HB.out]
        exact ⟨⟨_, rfl, (HKS.out).setRow (by omega) _⟩, below_setRow hB3 (Nat.le_refl _) _⟩
end Go.Proofs.Ytkllljgnpcmojaa
