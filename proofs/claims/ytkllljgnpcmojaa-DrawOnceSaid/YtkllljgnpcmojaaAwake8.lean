/- What stands at the head of each statement of layer 8: calls whose answers are known. -/
import Derived.Test.YtkllljgnpcmojaaLay
namespace Go.Proofs.Ytkllljgnpcmojaa
open Go Go.RowKit

set_option maxRecDepth 100000 in
set_option maxHeartbeats 4000000 in
theorem awake8_any (w : World) : Calls Try.prog 8 #[] w fun e w' => e = .returned (.bool true) ∧ Below w.heap.size w w' := by
  go_enter Try.func8, Try.ntmps8
  go_wp2_with fail
  refine (next_any none 0 0 [] 0 _ (ks_nil _)).mono ?_
  rintro e w1 ⟨rfl, hb1⟩
  rw [nx_awake1]
  go_wp2_with (first
    | ((refine wpList_lay_key (by rfl) _ _ (by rfl) k0 w1 _ _ (by rfl) (by rfl) (by rfl) (by rfl) ?_); intro w2 hk2 hs2 hb2 hz2)
    | ((refine wpList_lay_src (by rfl) _ _ (by rfl) (w1.heap.size + 1) none 0 0 0 _ hs2 (by rfl) (by rfl) (by rfl) ?_); intro w3 hs3 hb3 hz3))
  have hB3 : Below w.heap.size w w3 := hb1.trans ((hb2.trans (hb3.mono (by omega))).mono hb1.size)
  clear hk2 hs2 hb2 hz2 hs3 hb3 hz3
  refine (source_any 2 w3 (by omega)).mono ?_
  rintro e w4 ⟨⟨v, rfl, hv⟩, hb4⟩
  have hB4 : Below w.heap.size w w4 := hB3.trans (hb4.mono hB3.size)
  obtain ⟨a4, c4, rfl, _⟩ := id hv
  go_wp2_with fail
  refine (next_any _ _ _ _ 0 _ hv).mono ?_
  rintro e w5 ⟨rfl, hb5⟩
  rw [nx_awake2]
  have hB5 : Below w.heap.size w w5 := hB4.trans (hb5.mono hB4.size)
  have hv5 := hv.below hb5
  clear hv hb4 hb5
  go_wp2_with (first
    | ((refine wpList_lay_key (by rfl) _ _ (by rfl) (nk 0) w5 _ _ (by rfl) (by rfl) (by rfl) (by rfl) ?_); intro w6 hk6 hs6 hb6 hz6)
    | ((refine wpList_lay_src (by rfl) _ _ (by rfl) (w5.heap.size + 1) a4 2 c4 1 _ hs6 (by rfl) (by rfl) (by rfl) ?_); intro w7 hs7 hb7 hz7))
  have hS7 := hs7
  have hK7 : w7.heap[w5.heap.size]? = some (.cells (kc (nk 0)).toArray 26 (0, 0)) := (hb7.block _ (by omega)).trans hk6
  have hB57 : Below w5.heap.size w5 w7 := hb6.trans (hb7.mono (by omega))
  have hB7 : Below w.heap.size w w7 := hB5.trans (hB57.mono hB5.size)
  have hv7 := hv5.below hB57
  obtain ⟨D, hD⟩ : ∃ D, w5.heap.size = D := ⟨_, rfl⟩
  rw [hD] at hS7 hK7
  rw [hD]
  have hD7 : D + 2 ≤ w7.heap.size := by omega
  clear hk6 hs6 hb6 hz6 hs7 hb7 hz7 hB57 hv5 hD
  refine (key_any 1 w7 (by omega)).mono ?_
  rintro e w8 ⟨rfl, hb8⟩
  go_wp2_with fail
  refine (key_any 1 w8 (by omega)).mono ?_
  rintro e w9 ⟨rfl, hb9⟩
  have hkk := kc_length (nk 1)
  go_wp2_with fail
  rw [fold_two _ _ _ rfl]
  have hB9 : Below w7.heap.size w7 w9 := hb8.trans (hb9.mono hb8.size)
  have hk10 := ks_alloc w9 [nk 1, nk 1] (by simp)
  have hB9a : Below w7.heap.size w7 (w9.alloc (.cells (kcs [nk 1, nk 1]).toArray 26)) := hB9.alloc hB9.size _
  refine (next_any _ _ _ [nk 1, nk 1] 1 _ hk10).mono ?_
  rintro e w10 ⟨rfl, hb10⟩
  rw [nx_awake3]
  have hB10 : Below w7.heap.size w7 w10 := hB9a.trans (hb10.mono hB9a.size)
  clear hb8 hb9 hB9 hk10 hB9a hb10 hkk
  go_wp2_with (first
    | ((refine wpList_lay_key (by rfl) _ _ (by rfl) k0 w10 _ _ (by rfl) (by rfl) (by rfl) (by rfl) ?_); intro w11 hk11 hs11 hb11 hz11)
    | ((refine wpList_lay_src (by rfl) _ _ (by rfl) (w10.heap.size + 1) (some ⟨w9.heap.size, 0, none⟩) 2 2 1 _ hs11 (by rfl) (by rfl) (by rfl) ?_); intro w12 hs12 hb12 hz12))
  have hB12 : Below w7.heap.size w7 w12 := hB10.trans ((hb11.trans (hb12.mono (by omega))).mono hB10.size)
  clear hk11 hs11 hb11 hz11 hs12 hb12 hz12 hB10
  refine (key_any 3 w12 (by omega)).mono ?_
  rintro e w13 ⟨rfl, hb13⟩
  go_wp2_with fail
  refine (key_any 4 w13 (by omega)).mono ?_
  rintro e w14 ⟨rfl, hb14⟩
  have hk3 := kc_length (nk 3)
  have hk4 := kc_length (nk 4)
  go_wp2_with fail
  rw [fold_two _ _ _ rfl]
  have hB14 : Below w7.heap.size w7 w14 := hB12.trans ((hb13.trans (hb14.mono hb13.size)).mono hB12.size)
  have hk15 := ks_alloc w14 [nk 3, nk 4] (by simp)
  have hB14a : Below w7.heap.size w7 (w14.alloc (.cells (kcs [nk 3, nk 4]).toArray 26)) := hB14.alloc hB14.size _
  refine (textd_any _ _ _ [nk 3, nk 4] _ hk15 (by simp)).mono ?_
  rintro e w15 ⟨rfl, hb15⟩
  have hB15 : Below w7.heap.size w7 w15 := hB14a.trans (hb15.mono hB14a.size)
  clear hb13 hb14 hB12 hB14 hk15 hB14a hb15 hk3 hk4
  go_wp2_with fail
  refine (read_any _ w15 (by show (dtext [nk 3, nk 4]).toArray.size ≤ 1000000; rw [List.size_toArray, dtext_length]; decide)).mono ?_
  rintro e w16 ⟨hr, hb16⟩
  rw [show scan (-1) (ByteArray.mk (dtext [nk 3, nk 4]).toArray).data.toList = some ((nk 3).1 ++ (nk 4).1) from scan_awake1] at hr
  rcases hr with ⟨h, _⟩ | ⟨b, h, hne, _⟩ | ⟨b, v3, h, _, rfl, hv3⟩
  · cases h
  · cases h
    exact absurd len_awake hne
  cases h
  rw [chunks_awake] at hv3
  obtain ⟨a3, c3, rfl, _⟩ := id hv3
  have hv3' : Ks w16 (.slice a3 2 c3) [nk 3, nk 4] := hv3
  clear hv3
  have hv3 := hv3'
  clear hv3'
  have hB16 : Below w7.heap.size w7 w16 := hB15.trans (hb16.mono hB15.size)
  clear hb16 hB15
  go_wp2_with fail
  refine (read_any _ w16 (by simp [ByteArray.size])).mono ?_
  rintro e w17 ⟨hr, hb17⟩
  rw [show scan (-1) (ByteArray.mk #[48, 48]).data.toList = some [0] from scan_awake2] at hr
  rcases hr with ⟨h, _⟩ | ⟨b, h, _, rfl⟩ | ⟨b, v4, h, h0, _, _⟩
  · cases h
  rotate_left
  · cases h
    exact absurd h0 (by decide)
  have hv17 := hv3.below hb17
  have hB17 : Below w7.heap.size w7 w17 := hB16.trans (hb17.mono hB16.size)
  clear hb17 hv3 hB16 h
  have c0 : w17.cell? ⟨D + 1, 0, none⟩ = some (.slice a4 2 c4) := (hB17.cell (p := ⟨D + 1, 0, none⟩) (by show D + 1 < _; omega)).trans ((cell_of_block hS7 0).trans rfl)
  have c1 : w17.cell? ⟨D + 1, 1, none⟩ = some (.int .i64 1) := (hB17.cell (p := ⟨D + 1, 1, none⟩) (by show D + 1 < _; omega)).trans ((cell_of_block hS7 1).trans rfl)
  go_wp2_with fail
  refine (wipe_any a4 2 c4 ((List.range 2).map nk) 1 w17 (hv7.below hB17) (by simp)).mono ?_
  rintro e w18 ⟨⟨a5, c5, rfl, hv18⟩, hb18⟩
  rw [wiped_awake] at hv18
  obtain ⟨b5, o5, rfl, hb5, hr5⟩ := hv18.where (by simp)
  have hB18 : Below w7.heap.size w7 w18 := hB17.trans (hb18.mono hB17.size)
  have hr18 := hv17.below hb18
  clear c0 c1 hv17 hb18 hB17
  go_wp2_with ((refine wpList_lay_src (by rfl) _ _ (by rfl) w18.heap.size (some ⟨b5, o5, none⟩) 2 c5 1 _ (heap_alloc_new w18 _) (by rfl) (by rfl) (by rfl) ?_); intro w19 hs19 hb19 hz19; have f19 : w19.cell? ⟨w18.heap.size, 0, none⟩ = some (.slice (some ⟨b5, o5, none⟩) 2 c5) := (cell_of_block hs19 0).trans rfl)
  have hB1819 : Below w18.heap.size w18 w19 := ((Below.refl _ w18).alloc (Nat.le_refl _) _).trans hb19
  have hB19 : Below w7.heap.size w7 w19 := hB18.trans (hB1819.mono hB18.size)
  have gK : ∀ w', Below w19.heap.size w19 w' → w'.rangeAt D 0 (kc (nk 0)) := fun w' h => range_below (range_of_block hK7) (below_next h hB19) (by omega)
  have gS0 : ∀ w', Below w19.heap.size w19 w' → w'.cell? ⟨D + 1, 0, none⟩ = some (.slice a4 2 c4) := fun w' h => ((below_next h hB19).cell (p := ⟨D + 1, 0, none⟩) (by show D + 1 < _; omega)).trans ((cell_of_block hS7 0).trans rfl)
  have gS1 : ∀ w', Below w19.heap.size w19 w' → w'.cell? ⟨D + 1, 1, none⟩ = some (.int .i64 1) := fun w' h => ((below_next h hB19).cell (p := ⟨D + 1, 1, none⟩) (by show D + 1 < _; omega)).trans ((cell_of_block hS7 1).trans rfl)
  have g52 : ∀ w', Below w19.heap.size w19 w' → w'.cell? ⟨w18.heap.size, 0, none⟩ = some (.slice (some ⟨b5, o5, none⟩) 2 c5) := fun w' h => (h.cell (p := ⟨w18.heap.size, 0, none⟩) (block_lt hs19)).trans f19
  have g50 : ∀ w', Below w19.heap.size w19 w' → w'.rangeAt b5 o5 (kc k0) := fun w' h => range_below (by simpa using hr5 0 k0 rfl) (below_next h hB1819) hb5
  have g51 : ∀ w', Below w19.heap.size w19 w' → w'.rangeAt b5 (o5 + 32) (kc (nk 1)) := fun w' h => range_below (by simpa using hr5 1 (nk 1) rfl) (below_next h hB1819) hb5
  have hr19 := fun (w' : World) (h : Below w19.heap.size w19 w') => hr18.below (below_next h hB1819)
  have he := key_eq_is (nk 0) (nk 0) true (by simp)
  have hk3 := kc_length (nk 3)
  have hk4 := kc_length (nk 4)
  clear f19 hz19 hb19
  refine wp_region_noPanic ?_
  refine wp_region_held_drew (S := (fun w' => Below w19.heap.size w19 w')) (by kernel_rfl) ?_ (fun hHeld => ?_)
  · exact below_self_drew _
  refine takeL 0 (v := ?_) rfl (by kernel_rfl) (by kernel_rfl) (by kernel_rfl) (fun _ _ _ h => h) (Or.inl ⟨by rfl, ?_⟩) (by assumption) ?_
  rotate_left
  · (intro w hSw; go_simp; try with_reducible rfl)
  (try simp only [Act.put, List.setIfInBounds_toArray, List.set_cons_zero, List.set_cons_succ])
  refine takeL 1 (v := ?_) rfl (by kernel_rfl) (by kernel_rfl) (by kernel_rfl) (fun _ _ _ h => h) (Or.inl ⟨by rfl, ?_⟩) (by assumption) ?_
  rotate_left
  · (intro w hSw; go_simp; try with_reducible rfl)
  (try simp only [Act.put, List.setIfInBounds_toArray, List.set_cons_zero, List.set_cons_succ])
  refine takeL 2 (v := ?_) rfl (by kernel_rfl) (by kernel_rfl) (by kernel_rfl) (fun _ _ _ h => h) (Or.inl ⟨by rfl, ?_⟩) (by assumption) ?_
  rotate_left
  · (intro w hSw; go_simp; try with_reducible rfl)
  (try simp only [Act.put, List.setIfInBounds_toArray, List.set_cons_zero, List.set_cons_succ])
  refine takeL 3 (v := _) rfl (by kernel_rfl) (by kernel_rfl) (by kernel_rfl) (fun _ _ _ h => h) (yieldsIf_load_mid (by rfl) _ _ rfl _ _ rfl (kc (nk 0)) _ (fun w hSw => gK _ hSw) Try.underlying26 rfl (key_info _)) (by assumption) ?_
  (try simp only [Act.put, List.setIfInBounds_toArray, List.set_cons_zero, List.set_cons_succ])
  refine stepL 4 rfl (by kernel_rfl) (fun K hK => ?_)
  (go_simp; go_at_call 24; refine (key_any 0 _ (by omega)).mono ?_; rintro e w20 ⟨rfl, hb20⟩)
  refine hK.out _ _ ?_ (fun hHeld => ?_)
  · first | assumption | exact below_next ‹_› ‹_› | exact Below.alloc ‹_› (Below.size ‹_›) _
  clear hK K
  (try simp only [Act.put, List.setIfInBounds_toArray, List.set_cons_zero, List.set_cons_succ])
  refine takeL 5 (v := ?_) rfl (by kernel_rfl) (by kernel_rfl) (by kernel_rfl) (fun _ _ _ h => h) (Or.inl ⟨by rfl, ?_⟩) (by assumption) ?_
  rotate_left
  · (intro w hSw; go_simp; try with_reducible rfl)
  (try simp only [Act.put, List.setIfInBounds_toArray, List.set_cons_zero, List.set_cons_succ])
  refine takeL 6 (v := ?_) rfl (by kernel_rfl) (by kernel_rfl) (by kernel_rfl) (fun _ _ _ h => h) (Or.inl ⟨by rfl, ?_⟩) (by assumption) ?_
  rotate_left
  · (intro w hSw; go_simp; try with_reducible rfl)
  (try simp only [Act.put, List.setIfInBounds_toArray, List.set_cons_zero, List.set_cons_succ])
  refine takeL 7 (v := ?_) rfl (by kernel_rfl) (by kernel_rfl) (by kernel_rfl) (fun _ _ _ h => h) (Or.inl ⟨by rfl, ?_⟩) (by assumption) ?_
  rotate_left
  · (intro w hSw; go_simp; try with_reducible rfl)
  (try simp only [Act.put, List.setIfInBounds_toArray, List.set_cons_zero, List.set_cons_succ])
  refine takeL 8 (v := ?_) rfl (by kernel_rfl) (by kernel_rfl) (by kernel_rfl) (fun _ _ _ h => h) (Or.inl ⟨by rfl, ?_⟩) (by assumption) ?_
  rotate_left
  · (intro w hSw; go_simp; try with_reducible rfl)
  (try simp only [Act.put, List.setIfInBounds_toArray, List.set_cons_zero, List.set_cons_succ])
  refine takeL 9 (v := ?_) rfl (by kernel_rfl) (by kernel_rfl) (by kernel_rfl) (fun _ _ _ h => h) (Or.inl ⟨by rfl, ?_⟩) (by assumption) ?_
  rotate_left
  · (intro w hSw; go_simp; try with_reducible rfl)
  (try simp only [Act.put, List.setIfInBounds_toArray, List.set_cons_zero, List.set_cons_succ])
  refine takeL 10 (v := ?_) rfl (by kernel_rfl) (by kernel_rfl) (by kernel_rfl) (fun _ _ _ h => h) (Or.inl ⟨by rfl, ?_⟩) (by assumption) ?_
  rotate_left
  · (intro w hSw; go_simp; try with_reducible rfl)
  (try simp only [Act.put, List.setIfInBounds_toArray, List.set_cons_zero, List.set_cons_succ])
  refine takeL 11 (v := ?_) rfl (by kernel_rfl) (by kernel_rfl) (by kernel_rfl) (fun _ _ _ h => h) (Or.inl ⟨by rfl, ?_⟩) (by assumption) ?_
  rotate_left
  · (intro w hSw; go_simp; try with_reducible rfl)
  (try simp only [Act.put, List.setIfInBounds_toArray, List.set_cons_zero, List.set_cons_succ])
  refine takeL 12 (v := ?_) rfl (by kernel_rfl) (by kernel_rfl) (by kernel_rfl) (fun _ _ _ h => h) (Or.inl ⟨by rfl, ?_⟩) (by assumption) ?_
  rotate_left
  · (intro w hSw; go_simp; try with_reducible rfl)
  (try simp only [Act.put, List.setIfInBounds_toArray, List.set_cons_zero, List.set_cons_succ])
  refine takeL 13 (v := ?_) rfl (by kernel_rfl) (by kernel_rfl) (by kernel_rfl) (fun _ _ _ h => h) (Or.inl ⟨by rfl, ?_⟩) (by assumption) ?_
  rotate_left
  · (intro w hSw; go_simp; try with_reducible rfl)
  (try simp only [Act.put, List.setIfInBounds_toArray, List.set_cons_zero, List.set_cons_succ])
  refine takeL 14 (v := ?_) rfl (by kernel_rfl) (by kernel_rfl) (by kernel_rfl) (fun _ _ _ h => h) (Or.inl ⟨by rfl, ?_⟩) (by assumption) ?_
  rotate_left
  · (intro w hSw; go_simp; try with_reducible rfl)
  (try simp only [Act.put, List.setIfInBounds_toArray, List.set_cons_zero, List.set_cons_succ])
  refine takeL 15 (v := ?_) rfl (by kernel_rfl) (by kernel_rfl) (by kernel_rfl) (fun _ _ _ h => h) (Or.inl ⟨by rfl, ?_⟩) (by assumption) ?_
  rotate_left
  · (intro w hSw; go_simp; try with_reducible rfl)
  (try simp only [Act.put, List.setIfInBounds_toArray, List.set_cons_zero, List.set_cons_succ])
  refine takeL 16 (v := ?_) rfl (by kernel_rfl) (by kernel_rfl) (by kernel_rfl) (fun _ _ _ h => h) (Or.inl ⟨by rfl, ?_⟩) (by assumption) ?_
  rotate_left
  · (intro w hSw; go_simp; try with_reducible rfl)
  (try simp only [Act.put, List.setIfInBounds_toArray, List.set_cons_zero, List.set_cons_succ])
  refine takeL 17 (v := ?_) rfl (by kernel_rfl) (by kernel_rfl) (by kernel_rfl) (fun _ _ _ h => h) (Or.inl ⟨by rfl, ?_⟩) (by assumption) ?_
  rotate_left
  · (intro w hSw; go_simp; try with_reducible rfl)
  (try simp only [Act.put, List.setIfInBounds_toArray, List.set_cons_zero, List.set_cons_succ])
  refine stepL 18 rfl (by kernel_rfl) (fun K hK => ?_)
  (go_simp; go_at_call 17; refine (left_any a4 2 c4 1 _ (by omega)).mono ?_; rintro e w21 ⟨rfl, hb21⟩; rw [show (2 - un 1 2 : Nat) = 1 by decide])
  refine hK.out _ _ ?_ (fun hHeld => ?_)
  · first | assumption | exact below_next ‹_› ‹_› | exact Below.alloc ‹_› (Below.size ‹_›) _
  clear hK K
  (try simp only [Act.put, List.setIfInBounds_toArray, List.set_cons_zero, List.set_cons_succ])
  refine takeL 19 (v := ?_) rfl (by kernel_rfl) (by kernel_rfl) (by kernel_rfl) (fun _ _ _ h => h) (Or.inl ⟨by rfl, ?_⟩) (by assumption) ?_
  rotate_left
  · (intro w hSw; go_simp; try with_reducible rfl)
  (try simp only [Act.put, List.setIfInBounds_toArray, List.set_cons_zero, List.set_cons_succ])
  refine takeL 20 (v := ?_) rfl (by kernel_rfl) (by kernel_rfl) (by kernel_rfl) (fun _ _ _ h => h) (Or.inl ⟨by rfl, ?_⟩) (by assumption) ?_
  rotate_left
  · (intro w hSw; go_simp; try with_reducible rfl)
  (try simp only [Act.put, List.setIfInBounds_toArray, List.set_cons_zero, List.set_cons_succ])
  refine takeL 21 (v := ?_) rfl (by kernel_rfl) (by kernel_rfl) (by kernel_rfl) (fun _ _ _ h => h) (Or.inl ⟨by rfl, ?_⟩) (by assumption) ?_
  rotate_left
  · (intro w hSw; go_simp; try with_reducible rfl)
  (try simp only [Act.put, List.setIfInBounds_toArray, List.set_cons_zero, List.set_cons_succ])
  refine takeL 22 (v := ?_) rfl (by kernel_rfl) (by kernel_rfl) (by kernel_rfl) (fun _ _ _ h => h) (Or.inl ⟨by rfl, ?_⟩) (by assumption) ?_
  rotate_left
  · (intro w hSw; go_simp; try with_reducible rfl)
  (try simp only [Act.put, List.setIfInBounds_toArray, List.set_cons_zero, List.set_cons_succ])
  refine takeL 23 (v := ?_) rfl (by kernel_rfl) (by kernel_rfl) (by kernel_rfl) (fun _ _ _ h => h) (Or.inl ⟨by rfl, ?_⟩) (by assumption) ?_
  rotate_left
  · (intro w hSw; go_simp; try with_reducible rfl)
  (try simp only [Act.put, List.setIfInBounds_toArray, List.set_cons_zero, List.set_cons_succ])
  refine takeL 24 (v := ?_) rfl (by kernel_rfl) (by kernel_rfl) (by kernel_rfl) (fun _ _ _ h => h) (Or.inl ⟨by rfl, ?_⟩) (by assumption) ?_
  rotate_left
  · (intro w hSw; go_simp; try with_reducible rfl)
  (try simp only [Act.put, List.setIfInBounds_toArray, List.set_cons_zero, List.set_cons_succ])
  refine takeL 25 (v := ?_) rfl (by kernel_rfl) (by kernel_rfl) (by kernel_rfl) (fun _ _ _ h => h) (Or.inl ⟨by rfl, ?_⟩) (by assumption) ?_
  rotate_left
  · (intro w hSw; go_simp; try with_reducible rfl)
  (try simp only [Act.put, List.setIfInBounds_toArray, List.set_cons_zero, List.set_cons_succ])
  refine takeL 26 (v := ?_) rfl (by kernel_rfl) (by kernel_rfl) (by kernel_rfl) (fun _ _ _ h => h) (Or.inl ⟨by rfl, ?_⟩) (by assumption) ?_
  rotate_left
  · (intro w hSw; go_simp; try with_reducible rfl)
  (try simp only [Act.put, List.setIfInBounds_toArray, List.set_cons_zero, List.set_cons_succ])
  refine stepL 27 rfl (by kernel_rfl) (fun K hK => ?_)
  (go_simp; go_at_call 24; refine (key_any 3 _ (by omega)).mono ?_; rintro e w22 ⟨rfl, hb22⟩)
  refine hK.out _ _ ?_ (fun hHeld => ?_)
  · first | assumption | exact below_next ‹_› ‹_› | exact Below.alloc ‹_› (Below.size ‹_›) _
  clear hK K
  (try simp only [Act.put, List.setIfInBounds_toArray, List.set_cons_zero, List.set_cons_succ])
  refine stepL 28 rfl (by kernel_rfl) (fun K hK => ?_)
  (go_simp; go_at_call 24; refine (key_any 4 _ (by omega)).mono ?_; rintro e w23 ⟨rfl, hb23⟩)
  refine hK.out _ _ ?_ (fun hHeld => ?_)
  · first | assumption | exact below_next ‹_› ‹_› | exact Below.alloc ‹_› (Below.size ‹_›) _
  clear hK K
  (try simp only [Act.put, List.setIfInBounds_toArray, List.set_cons_zero, List.set_cons_succ])
  refine stepL 29 rfl (by kernel_rfl) (fun K hK => ?_)
  (go_simp; rw [fold_two _ _ _ rfl])
  refine hK.out _ _ ?_ (fun hHeld => ?_)
  · first | assumption | exact below_next ‹_› ‹_› | exact Below.alloc ‹_› (Below.size ‹_›) _
  clear hK K
  (try simp only [Act.put, List.setIfInBounds_toArray, List.set_cons_zero, List.set_cons_succ])
  refine stepL 30 rfl (by kernel_rfl) (fun K hK => ?_)
  (go_simp; go_at_call 16; refine (all_is _ _ _ _ _ _ [nk 3, nk 4] [nk 3, nk 4] true (by simp) _ (hr19 _ ‹_›) (ks_alloc w23 [nk 3, nk 4] (by simp))).mono ?_; rintro e w24 ⟨rfl, hb24⟩)
  refine hK.out _ _ ?_ (fun hHeld => ?_)
  · first | assumption | exact below_next ‹_› ‹_› | exact Below.alloc ‹_› (Below.size ‹_›) _
  clear hK K
  (try simp only [Act.put, List.setIfInBounds_toArray, List.set_cons_zero, List.set_cons_succ])
  refine takeL 31 (v := ?_) rfl (by kernel_rfl) (by kernel_rfl) (by kernel_rfl) (fun _ _ _ h => h) (Or.inl ⟨by rfl, ?_⟩) (by assumption) ?_
  rotate_left
  · (intro w hSw; go_simp; try with_reducible rfl)
  (try simp only [Act.put, List.setIfInBounds_toArray, List.set_cons_zero, List.set_cons_succ])
  refine takeL 32 (v := ?_) rfl (by kernel_rfl) (by kernel_rfl) (by kernel_rfl) (fun _ _ _ h => h) (Or.inl ⟨by rfl, ?_⟩) (by assumption) ?_
  rotate_left
  · (intro w hSw; go_simp; try with_reducible rfl)
  (try simp only [Act.put, List.setIfInBounds_toArray, List.set_cons_zero, List.set_cons_succ])
  refine takeL 33 (v := ?_) rfl (by kernel_rfl) (by kernel_rfl) (by kernel_rfl) (fun _ _ _ h => h) (Or.inl ⟨by rfl, ?_⟩) (by assumption) ?_
  rotate_left
  · (intro w hSw; go_simp; try with_reducible rfl)
  (try simp only [Act.put, List.setIfInBounds_toArray, List.set_cons_zero, List.set_cons_succ])
  refine takeL 34 (v := ?_) rfl (by kernel_rfl) (by kernel_rfl) (by kernel_rfl) (fun _ _ _ h => h) (Or.inl ⟨by rfl, ?_⟩) (by assumption) ?_
  rotate_left
  · (intro w hSw; go_simp; try with_reducible rfl)
  (try simp only [Act.put, List.setIfInBounds_toArray, List.set_cons_zero, List.set_cons_succ])
  refine takeL 35 (v := ?_) rfl (by kernel_rfl) (by kernel_rfl) (by kernel_rfl) (fun _ _ _ h => h) (Or.inl ⟨by rfl, ?_⟩) (by assumption) ?_
  rotate_left
  · (intro w hSw; go_simp; try with_reducible rfl)
  (try simp only [Act.put, List.setIfInBounds_toArray, List.set_cons_zero, List.set_cons_succ])
  refine takeL 36 (v := ?_) rfl (by kernel_rfl) (by kernel_rfl) (by kernel_rfl) (fun _ _ _ h => h) (Or.inl ⟨by rfl, ?_⟩) (by assumption) ?_
  rotate_left
  · (intro w hSw; go_simp; try with_reducible rfl)
  (try simp only [Act.put, List.setIfInBounds_toArray, List.set_cons_zero, List.set_cons_succ])
  refine takeL 37 (v := ?_) rfl (by kernel_rfl) (by kernel_rfl) (by kernel_rfl) (fun _ _ _ h => h) (Or.inl ⟨by rfl, ?_⟩) (by assumption) ?_
  rotate_left
  · (intro w hSw; go_simp; try with_reducible rfl)
  (try simp only [Act.put, List.setIfInBounds_toArray, List.set_cons_zero, List.set_cons_succ])
  refine takeL 38 (v := ?_) rfl (by kernel_rfl) (by kernel_rfl) (by kernel_rfl) (fun _ _ _ h => h) (Or.inl ⟨by rfl, ?_⟩) (by assumption) ?_
  rotate_left
  · (intro w hSw; go_simp; try with_reducible rfl)
  (try simp only [Act.put, List.setIfInBounds_toArray, List.set_cons_zero, List.set_cons_succ])
  refine takeL 39 (v := ?_) rfl (by kernel_rfl) (by kernel_rfl) (by kernel_rfl) (fun _ _ _ h => h) (Or.inl ⟨by rfl, ?_⟩) (by assumption) ?_
  rotate_left
  · (intro w hSw; go_simp; try with_reducible rfl)
  (try simp only [Act.put, List.setIfInBounds_toArray, List.set_cons_zero, List.set_cons_succ])
  refine takeL 40 (v := ?_) rfl (by kernel_rfl) (by kernel_rfl) (by kernel_rfl) (fun _ _ _ h => h) (Or.inl ⟨by rfl, ?_⟩) (by assumption) ?_
  rotate_left
  · (intro w hSw; go_simp; try with_reducible rfl)
  (try simp only [Act.put, List.setIfInBounds_toArray, List.set_cons_zero, List.set_cons_succ])
  refine takeL 41 (v := ?_) rfl (by kernel_rfl) (by kernel_rfl) (by kernel_rfl) (fun _ _ _ h => h) (Or.inl ⟨by rfl, ?_⟩) (by assumption) ?_
  rotate_left
  · (intro w hSw; go_simp; try with_reducible rfl)
  (try simp only [Act.put, List.setIfInBounds_toArray, List.set_cons_zero, List.set_cons_succ])
  refine takeL 42 (v := ?_) rfl (by kernel_rfl) (by kernel_rfl) (by kernel_rfl) (fun _ _ _ h => h) (Or.inl ⟨by rfl, ?_⟩) (by assumption) ?_
  rotate_left
  · (intro w hSw; go_simp; try with_reducible rfl)
  (try simp only [Act.put, List.setIfInBounds_toArray, List.set_cons_zero, List.set_cons_succ])
  refine takeL 43 (v := ?_) rfl (by kernel_rfl) (by kernel_rfl) (by kernel_rfl) (fun _ _ _ h => h) (Or.inl ⟨by rfl, ?_⟩) (by assumption) ?_
  rotate_left
  · (intro w hSw; go_simp; try with_reducible rfl)
  (try simp only [Act.put, List.setIfInBounds_toArray, List.set_cons_zero, List.set_cons_succ])
  refine takeL 44 (v := _) rfl (by kernel_rfl) (by kernel_rfl) (by kernel_rfl) (fun _ _ _ h => h) (yieldsIf_load_mid (by rfl) _ _ rfl _ _ rfl (kc k0) _ (fun w hSw => g50 _ hSw) Try.underlying26 rfl (key_info _)) (by assumption) ?_
  (try simp only [Act.put, List.setIfInBounds_toArray, List.set_cons_zero, List.set_cons_succ])
  refine stepL 45 rfl (by kernel_rfl) (fun K hK => ?_)
  (go_simp; go_at_call 21; refine (clean_is k0 true (by simp) _).mono ?_; rintro e w25 ⟨rfl, hb25⟩)
  refine hK.out _ _ ?_ (fun hHeld => ?_)
  · first | assumption | exact below_next ‹_› ‹_› | exact Below.alloc ‹_› (Below.size ‹_›) _
  clear hK K
  (try simp only [Act.put, List.setIfInBounds_toArray, List.set_cons_zero, List.set_cons_succ])
  refine takeL 46 (v := ?_) rfl (by kernel_rfl) (by kernel_rfl) (by kernel_rfl) (fun _ _ _ h => h) (Or.inl ⟨by rfl, ?_⟩) (by assumption) ?_
  rotate_left
  · (intro w hSw; go_simp; try with_reducible rfl)
  (try simp only [Act.put, List.setIfInBounds_toArray, List.set_cons_zero, List.set_cons_succ])
  refine takeL 47 (v := ?_) rfl (by kernel_rfl) (by kernel_rfl) (by kernel_rfl) (fun _ _ _ h => h) (Or.inl ⟨by rfl, ?_⟩) (by assumption) ?_
  rotate_left
  · (intro w hSw; go_simp; try with_reducible rfl)
  (try simp only [Act.put, List.setIfInBounds_toArray, List.set_cons_zero, List.set_cons_succ])
  refine takeL 48 (v := ?_) rfl (by kernel_rfl) (by kernel_rfl) (by kernel_rfl) (fun _ _ _ h => h) (Or.inl ⟨by rfl, ?_⟩) (by assumption) ?_
  rotate_left
  · (intro w hSw; go_simp; try with_reducible rfl)
  (try simp only [Act.put, List.setIfInBounds_toArray, List.set_cons_zero, List.set_cons_succ])
  refine takeL 49 (v := ?_) rfl (by kernel_rfl) (by kernel_rfl) (by kernel_rfl) (fun _ _ _ h => h) (Or.inl ⟨by rfl, ?_⟩) (by assumption) ?_
  rotate_left
  · (intro w hSw; go_simp; try with_reducible rfl)
  (try simp only [Act.put, List.setIfInBounds_toArray, List.set_cons_zero, List.set_cons_succ])
  refine takeL 50 (v := ?_) rfl (by kernel_rfl) (by kernel_rfl) (by kernel_rfl) (fun _ _ _ h => h) (Or.inl ⟨by rfl, ?_⟩) (by assumption) ?_
  rotate_left
  · (intro w hSw; go_simp; try with_reducible rfl)
  (try simp only [Act.put, List.setIfInBounds_toArray, List.set_cons_zero, List.set_cons_succ])
  refine takeL 51 (v := _) rfl (by kernel_rfl) (by kernel_rfl) (by kernel_rfl) (fun _ _ _ h => h) (yieldsIf_load_mid (by rfl) _ _ rfl _ _ rfl (kc (nk 1)) _ (fun w hSw => g51 _ hSw) Try.underlying26 rfl (key_info _)) (by assumption) ?_
  (try simp only [Act.put, List.setIfInBounds_toArray, List.set_cons_zero, List.set_cons_succ])
  refine stepL 52 rfl (by kernel_rfl) (fun K hK => ?_)
  (go_simp; go_at_call 21; refine (clean_is (nk 1) false (by decide +kernel) _).mono ?_; rintro e w26 ⟨rfl, hb26⟩)
  refine hK.out _ _ ?_ (fun hHeld => ?_)
  · first | assumption | exact below_next ‹_› ‹_› | exact Below.alloc ‹_› (Below.size ‹_›) _
  clear hK K
  (try simp only [Act.put, List.setIfInBounds_toArray, List.set_cons_zero, List.set_cons_succ])
  refine takeL 53 (v := ?_) rfl (by kernel_rfl) (by kernel_rfl) (by kernel_rfl) (fun _ _ _ h => h) (Or.inl ⟨by rfl, ?_⟩) (by assumption) ?_
  rotate_left
  · (intro w hSw; go_simp; try with_reducible rfl)
  (try simp only [Act.put, List.setIfInBounds_toArray, List.set_cons_zero, List.set_cons_succ])
  refine takeL 54 (v := ?_) rfl (by kernel_rfl) (by kernel_rfl) (by kernel_rfl) (fun _ _ _ h => h) (Or.inl ⟨by rfl, ?_⟩) (by assumption) ?_
  rotate_left
  · (intro w hSw; go_simp; try with_reducible rfl)
  (try simp only [Act.put, List.setIfInBounds_toArray, List.set_cons_zero, List.set_cons_succ])
  refine takeL 55 (v := ?_) rfl (by kernel_rfl) (by kernel_rfl) (by kernel_rfl) (fun _ _ _ h => h) (Or.inl ⟨by rfl, ?_⟩) (by assumption) ?_
  rotate_left
  · (intro w hSw; go_simp; try with_reducible rfl)
  (try simp only [Act.put, List.setIfInBounds_toArray, List.set_cons_zero, List.set_cons_succ])
  refine takeL 56 (v := ?_) rfl (by kernel_rfl) (by kernel_rfl) (by kernel_rfl) (fun _ _ _ h => h) (Or.inl ⟨by rfl, ?_⟩) (by assumption) ?_
  rotate_left
  · (intro w hSw; go_simp; try with_reducible rfl)
  (try simp only [Act.put, List.setIfInBounds_toArray, List.set_cons_zero, List.set_cons_succ])
  refine takeL 57 (v := ?_) rfl (by kernel_rfl) (by kernel_rfl) (by kernel_rfl) (fun _ _ _ h => h) (Or.inl ⟨by rfl, ?_⟩) (by assumption) ?_
  rotate_left
  · (intro w hSw; go_simp; try with_reducible rfl)
  (try simp only [Act.put, List.setIfInBounds_toArray, List.set_cons_zero])
  refine wpAnyH_done (by kernel_rfl) ?_ _
  refine NoPanic.normal ?_
  have hfin : Below w19.heap.size w19 w26 := by assumption
  have hB := hB7.trans ((hB19.trans (hfin.mono hB19.size)).mono hB7.size)
  clear gK gS0 gS1 g52 g50 g51 hr19 he hfin
  go_wp2
  go_ret
  exact ⟨rfl, hB⟩
end Go.Proofs.Ytkllljgnpcmojaa
