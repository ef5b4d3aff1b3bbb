/- The walk of the law DrawTells. -/
import Derived.Test.YtkllljgnpcmojaaLDMore
import Derived.Test.YtkllljgnpcmojaaRegion
namespace Go.Proofs.Ytkllljgnpcmojaa
open Go Go.RowKit

set_option maxHeartbeats 4000000 in
set_option maxRecDepth 100000 in
theorem drawTells_walk (a0 : Option Addr) (len0 cap0 : Nat) (u0 : Int) (s : ByteArray) (w : World) (w0 : len0 ≤ 140737488355328 → ∃ l, Ks w (.slice a0 len0 cap0) l) (_v0 : (Lit.int .i64 u0).wf = true) (_w1 : s.size ≤ maxLen) :
    Calls Try.prog 3 #[.agg #[.slice a0 len0 cap0, .int .i64 u0], .string s] w fun e w' => e = .returned (.bool true) ∧ Below w.heap.size w w' := by
  have hb0 : Below w.heap.size w (w.alloc (.cells #[.slice a0 len0 cap0, .int .i64 u0] 24)) := (Below.refl _ w).alloc (Nat.le_refl _) _
  have hD0 : (w.alloc (.cells #[.slice a0 len0 cap0, .int .i64 u0] 24)).heap[w.heap.size]? = some (.cells #[.slice a0 len0 cap0, .int .i64 u0] 24 (0, 0)) := heap_alloc_new w _
  obtain ⟨h1, h2⟩ | h12 : (len0 ≤ 60 ∧ s.size ≤ 1000) ∨ ¬ (len0 ≤ 60 ∧ s.size ≤ 1000) := Classical.em _
  · obtain ⟨l, hk⟩ := w0 (by omega)
    obtain ⟨rfl, p1, p2, p3⟩ := hk.len
    have hka := hk.below hb0
    clear w0 hk
    go_enter Try.func3, Try.ntmps3
    go_wp2_with fail
    generalize w.alloc (.cells #[.slice a0 l.length cap0, .int .i64 u0] 24) = wa at *
    refine (awake8_any _).mono ?_
    rintro e w1 ⟨rfl, hb1⟩
    obtain ⟨D, hD⟩ : ∃ D, w.heap.size = D := ⟨_, rfl⟩
    have hk1 := hka.below hb1
    have hD1 := blk_on hD0 hb1
    have hB1 := hb0.trans (hb1.mono (Nat.le_of_lt (block_lt hD0)))
    rw [hD] at hD1 hB1
    rw [hD]
    obtain ⟨c0, c1⟩ := src_on hD1 (Below.refl _ w1)
    clear hka hb1 hb0 hD0
    go_wp2_with fail
    refine (next_any a0 l.length cap0 l u0 w1 hk1).mono ?_
    rintro e w2 ⟨rfl, hb2⟩
    obtain ⟨k, u2, er, hnx⟩ : ∃ k u2 er, nx l u0 = (k, u2, er) := ⟨_, _, _, rfl⟩
    rw [hnx]
    have HN := Lib.hid hnx
    clear hnx c0 c1
    go_wp2_with (first
      | ((refine wpList_lay_key (by rfl) _ _ (by rfl) k w2 _ _ (by rfl) (by rfl) (by rfl) (by rfl) ?_); intro w3 hk3 hs3 hb3 hz3)
      | ((refine wpList_lay_src (by rfl) _ _ (by rfl) (w2.heap.size + 1) a0 l.length cap0 u2 _ hs3 (by rfl) (by rfl) (by rfl) ?_); intro w4 hs4 hb4 hz4; have hB14 := hb2.trans ((hb3.trans (hb4.mono (by omega))).mono hb2.size); obtain ⟨c0, c1⟩ := src_on hD1 hB14))
    have hk4 := hk1.below hB14
    have hD4 := blk_on hD1 hB14
    have hB4 := hB1.trans (hB14.mono (Nat.le_of_lt (block_lt hD1)))
    have hK4 : w4.heap[w2.heap.size]? = some (.cells (kc k).toArray 26 (0, 0)) := (hb4.block _ (by omega)).trans hk3
    obtain ⟨K, hK⟩ : ∃ K, w2.heap.size = K := ⟨_, rfl⟩
    rw [hK] at hK4 hs4
    rw [hK]
    clear hk3 hs3 hb3 hz3 hb4 hz4 hb2 hk1 hD1 hB1 hB14 hK
    refine (refnext_any a0 l.length cap0 l u0 w4 hk4).mono ?_
    rintro e w5 ⟨rfl, hb5⟩
    rw [HN.out]
    clear c0 c1
    go_wp2_with (first
      | ((refine wpList_lay_key (by rfl) _ _ (by rfl) k w5 _ _ (by rfl) (by rfl) (by rfl) (by rfl) ?_); intro w6 hk6 hs6 hb6 hz6)
      | ((refine wpList_lay_src (by rfl) _ _ (by rfl) (w5.heap.size + 1) a0 l.length cap0 u2 _ hs6 (by rfl) (by rfl) (by rfl) ?_); intro w7 hs7 hb7 hz7))
    have hB47 := hb5.trans ((hb6.trans (hb7.mono (by omega))).mono hb5.size)
    have hk7 := hk4.below hB47
    have hD7 := blk_on hD4 hB47
    have hK7 := blk_on hK4 hB47
    have hT7 := blk_on hs4 hB47
    have hB7 := hB4.trans (hB47.mono (Nat.le_of_lt (block_lt hD4)))
    have hL7 : w7.heap[w5.heap.size]? = some (.cells (kc k).toArray 26 (0, 0)) := (hb7.block _ (by omega)).trans hk6
    obtain ⟨L, hL⟩ : ∃ L, w5.heap.size = L := ⟨_, rfl⟩
    rw [hL] at hL7 hs7
    rw [hL]
    clear hk6 hs6 hb6 hz6 hb7 hz7 hb5 hk4 hD4 hB4 hB47 hL hK4 hs4
    refine (readd_alike s w7 (by omega)).mono ?_
    rintro e w8 ⟨⟨a8, n8, c8, rfl, hm8⟩, hb8⟩
    obtain ⟨r, q, hq⟩ : ∃ r q, kres (scan (-1) s.data.toList) = (r, q) := ⟨_, _, rfl⟩
    rw [hq] at hm8 ⊢
    have HQ := Lib.hid hq
    clear hq
    go_wp2_with fail
    refine (refreadd_alike s w8 (by omega)).mono ?_
    rintro e w9 ⟨⟨a9, n9, c9, rfl, hn9⟩, hb9⟩
    rw [HQ.out] at hn9 ⊢
    have hB79 := hb8.trans (hb9.mono hb8.size)
    have hk9 := hk7.below hB79
    have hm9 := hm8.below hb9
    have hB9 := hB7.trans (hB79.mono (Nat.le_of_lt (block_lt hD7)))
    have gS0 := fun (w' : World) (h : Below w9.heap.size w9 w') => (src_on hD7 (below_next h hB79)).1
    have gS1 := fun (w' : World) (h : Below w9.heap.size w9 w') => (src_on hD7 (below_next h hB79)).2
    have gT0 := fun (w' : World) (h : Below w9.heap.size w9 w') => (src_on hT7 (below_next h hB79)).1
    have gT1 := fun (w' : World) (h : Below w9.heap.size w9 w') => (src_on hT7 (below_next h hB79)).2
    have gU0 := fun (w' : World) (h : Below w9.heap.size w9 w') => (src_on hs7 (below_next h hB79)).1
    have gU1 := fun (w' : World) (h : Below w9.heap.size w9 w') => (src_on hs7 (below_next h hB79)).2
    have gK := fun (w' : World) (h : Below w9.heap.size w9 w') => range_of_block (blk_on hK7 (below_next h hB79))
    have gL := fun (w' : World) (h : Below w9.heap.size w9 w') => range_of_block (blk_on hL7 (below_next h hB79))
    have hwl := wiped_length l u0
    have he := key_eq_is k k true (by simp)
    clear hb8 hb9 hk7 hm8 hB7 hB79 hD7 hK7 hL7 hT7 hs7
    go_wp2_with fail
    refine wp_region_noPanic ?_
    refine wp_region_held_drew (S := (fun w' => Below w9.heap.size w9 w')) (by kernel_rfl) ?_ (fun hHeld => ?_)
    · exact below_self_drew _
    refine takeL 0 (v := ?_) rfl (by kernel_rfl) (by kernel_rfl) (by kernel_rfl) (fun _ _ _ h => h) (Or.inl ⟨by rfl, ?_⟩) (by assumption) ?_
    rotate_left
    · (intro w hSw; go_simp; try with_reducible rfl)
    (try simp only [Act.put, List.setIfInBounds_toArray, List.set_cons_zero, List.set_cons_succ])
    refine takeL 1 (v := ?_) rfl (by kernel_rfl) (by kernel_rfl) (by kernel_rfl) (fun _ _ _ h => h) (Or.inl ⟨by rfl, ?_⟩) (by assumption) ?_
    rotate_left
    · (intro w hSw; go_simp; try with_reducible rfl)
    (try simp only [Act.put, List.setIfInBounds_toArray, List.set_cons_zero, List.set_cons_succ])
    refine stepL 2 rfl (by kernel_rfl) (fun K hK => ?_)
    (go_simp; go_at_call 13; refine (same_any _ _ _ _ _ _ u2 l _ (hk9.below (by assumption)) (hk9.below (by assumption))).mono ?_; rintro e wA ⟨rfl, hbA⟩)
    refine hK.out _ _ ?_ (fun hHeld => ?_)
    · first | assumption | exact below_next ‹_› ‹_›
    clear hK K
    (try simp only [Act.put, List.setIfInBounds_toArray, List.set_cons_zero, List.set_cons_succ])
    refine takeL 3 (v := ?_) rfl (by kernel_rfl) (by kernel_rfl) (by kernel_rfl) (fun _ _ _ h => h) (Or.inl ⟨by rfl, ?_⟩) (by assumption) ?_
    rotate_left
    · (intro w hSw; go_simp; try with_reducible rfl)
    (try simp only [Act.put, List.setIfInBounds_toArray, List.set_cons_zero, List.set_cons_succ])
    refine takeL 4 (v := ?_) rfl (by kernel_rfl) (by kernel_rfl) (by kernel_rfl) (fun _ _ _ h => h) (Or.inl ⟨by rfl, ?_⟩) (by assumption) ?_
    rotate_left
    · (intro w hSw; go_simp; try with_reducible rfl)
    (try simp only [Act.put, List.setIfInBounds_toArray, List.set_cons_zero, List.set_cons_succ])
    refine takeL 6 (v := ?_) rfl (by kernel_rfl) (by kernel_rfl) (by kernel_rfl) (fun _ _ _ h => h) (Or.inl ⟨by rfl, ?_⟩) (by assumption) ?_
    rotate_left
    · (intro w hSw; go_simp; try with_reducible rfl)
    (try simp only [Act.put, List.setIfInBounds_toArray, List.set_cons_zero, List.set_cons_succ])
    refine stepL 5 rfl (by kernel_rfl) (fun K hK => ?_)
    (go_simp; go_at_call 14; refine (wipe_any a0 l.length cap0 l u0 _ (hk9.below (by assumption)) (by omega)).mono ?_; rintro e wB ⟨⟨aW, cW, rfl, hvW⟩, hbB⟩)
    refine hK.out _ _ ?_ (fun hHeld => ?_)
    · first | assumption | exact below_next ‹_› ‹_›
    clear hK K
    (try simp only [Act.put, List.setIfInBounds_toArray, List.set_cons_zero, List.set_cons_succ])
    refine stepL 7 rfl (by kernel_rfl) (fun K hK => ?_)
    (go_simp; go_at_call 15; refine (refwipe_any a0 l.length cap0 l u0 _ (hk9.below (by assumption)) (by omega)).mono ?_; rintro e wC ⟨⟨vR, rfl, hvR⟩, hbC⟩; obtain ⟨aR, cR, rfl, _⟩ := id hvR; rw [hwl] at hvR ⊢)
    refine hK.out _ _ ?_ (fun hHeld => ?_)
    · first | assumption | exact below_next ‹_› ‹_›
    clear hK K
    (try simp only [Act.put, List.setIfInBounds_toArray, List.set_cons_zero, List.set_cons_succ])
    refine stepL 8 rfl (by kernel_rfl) (fun K hK => ?_)
    (go_simp; go_at_call 13; refine (same_any _ _ _ _ _ _ u0 (wiped l u0) _ (hvW.below hbC) hvR).mono ?_; rintro e wD ⟨rfl, hbD⟩)
    refine hK.out _ _ ?_ (fun hHeld => ?_)
    · first | assumption | exact below_next ‹_› ‹_›
    clear hK K
    (try simp only [Act.put, List.setIfInBounds_toArray, List.set_cons_zero, List.set_cons_succ])
    refine takeL 9 (v := ?_) rfl (by kernel_rfl) (by kernel_rfl) (by kernel_rfl) (fun _ _ _ h => h) (Or.inl ⟨by rfl, ?_⟩) (by assumption) ?_
    rotate_left
    · (intro w hSw; go_simp; try with_reducible rfl)
    (try simp only [Act.put, List.setIfInBounds_toArray, List.set_cons_zero, List.set_cons_succ])
    refine takeL 10 (v := ?_) rfl (by kernel_rfl) (by kernel_rfl) (by kernel_rfl) (fun _ _ _ h => h) (Or.inl ⟨by rfl, ?_⟩) (by assumption) ?_
    rotate_left
    · (intro w hSw; go_simp; try with_reducible rfl)
    (try simp only [Act.put, List.setIfInBounds_toArray, List.set_cons_zero, List.set_cons_succ])
    refine takeL 11 (v := ?_) rfl (by kernel_rfl) (by kernel_rfl) (by kernel_rfl) (fun _ _ _ h => h) (Or.inl ⟨by rfl, ?_⟩) (by assumption) ?_
    rotate_left
    · (intro w hSw; go_simp; try with_reducible rfl)
    (try simp only [Act.put, List.setIfInBounds_toArray, List.set_cons_zero, List.set_cons_succ])
    refine takeL 12 (v := ?_) rfl (by kernel_rfl) (by kernel_rfl) (by kernel_rfl) (fun _ _ _ h => h) (Or.inl ⟨by rfl, ?_⟩) (by assumption) ?_
    rotate_left
    · (intro w hSw; go_simp; try with_reducible rfl)
    (try simp only [Act.put, List.setIfInBounds_toArray, List.set_cons_zero, List.set_cons_succ])
    refine stepL 13 rfl (by kernel_rfl) (fun K hK => ?_)
    (go_simp; go_at_call 16; refine (all_is _ _ _ _ _ _ r r true (by simp) _ (hm9.below (by assumption)) (hn9.below (by assumption))).mono ?_; rintro e wE ⟨rfl, hbE⟩)
    refine hK.out _ _ ?_ (fun hHeld => ?_)
    · first | assumption | exact below_next ‹_› ‹_›
    clear hK K
    (try simp only [Act.put, List.setIfInBounds_toArray, List.set_cons_zero, List.set_cons_succ])
    refine takeL 14 (v := ?_) rfl (by kernel_rfl) (by kernel_rfl) (by kernel_rfl) (fun _ _ _ h => h) (Or.inl ⟨by rfl, ?_⟩) (by assumption) ?_
    rotate_left
    · (intro w hSw; go_simp; try with_reducible rfl)
    (try simp only [Act.put, List.setIfInBounds_toArray, List.set_cons_zero, List.set_cons_succ])
    refine takeL 15 (v := ?_) rfl (by kernel_rfl) (by kernel_rfl) (by kernel_rfl) (fun _ _ _ h => h) (Or.inl ⟨by rfl, ?_⟩) (by assumption) ?_
    rotate_left
    · (intro w hSw; go_simp; try with_reducible rfl)
    (try simp only [Act.put, List.setIfInBounds_toArray, List.set_cons_zero, List.set_cons_succ])
    refine wpAnyH_done (by kernel_rfl) ?_ _
    refine NoPanic.normal ?_
    clear hbA hbB hbC hbD hvW hvR hm9 hn9
    go_wp2_with fail
    refine wp_region_noPanic ?_
    refine wp_region_held_drew (S := (fun w' => Below w9.heap.size w9 w')) (by kernel_rfl) ?_ (fun hHeld => ?_)
    · exact Below.drew (by assumption)
    refine takeL 0 (v := ?_) rfl (by kernel_rfl) (by kernel_rfl) (by kernel_rfl) (fun _ _ _ h => h) (Or.inl ⟨by rfl, ?_⟩) (by assumption) ?_
    rotate_left
    · (intro w hSw; go_simp; try with_reducible rfl)
    (try simp only [Act.put, List.setIfInBounds_toArray, List.set_cons_zero, List.set_cons_succ])
    refine takeL 1 (v := ?_) rfl (by kernel_rfl) (by kernel_rfl) (by kernel_rfl) (fun _ _ _ h => h) (Or.inl ⟨by rfl, ?_⟩) (by assumption) ?_
    rotate_left
    · (intro w hSw; go_simp; try with_reducible rfl)
    (try simp only [Act.put, List.setIfInBounds_toArray, List.set_cons_zero, List.set_cons_succ])
    refine takeL 2 (v := _) rfl (by kernel_rfl) (by kernel_rfl) (by kernel_rfl) (fun _ _ _ h => h) (yieldsIf_load_mid (by rfl) _ _ rfl _ _ rfl (kc k) _ (fun w hSw => gK _ hSw) Try.underlying26 rfl (key_info _)) (by assumption) ?_
    (try simp only [Act.put, List.setIfInBounds_toArray, List.set_cons_zero, List.set_cons_succ])
    refine takeL 3 (v := _) rfl (by kernel_rfl) (by kernel_rfl) (by kernel_rfl) (fun _ _ _ h => h) (yieldsIf_load_mid (by rfl) _ _ rfl _ _ rfl (kc k) _ (fun w hSw => gL _ hSw) Try.underlying26 rfl (key_info _)) (by assumption) ?_
    (try simp only [Act.put, List.setIfInBounds_toArray, List.set_cons_zero, List.set_cons_succ])
    refine takeL 4 (v := ?_) rfl (by kernel_rfl) (by kernel_rfl) (by kernel_rfl) (fun _ _ _ h => h) (Or.inl ⟨by rfl, ?_⟩) (by assumption) ?_
    rotate_left
    · (intro w hSw; go_simp; try with_reducible rfl)
    (try simp only [Act.put, List.setIfInBounds_toArray, List.set_cons_zero, List.set_cons_succ])
    refine takeL 5 (v := ?_) rfl (by kernel_rfl) (by kernel_rfl) (by kernel_rfl) (fun _ _ _ h => h) (Or.inl ⟨by rfl, ?_⟩) (by assumption) ?_
    rotate_left
    · (intro w hSw; go_simp; try with_reducible rfl)
    (try simp only [Act.put, List.setIfInBounds_toArray, List.set_cons_zero, List.set_cons_succ])
    refine takeL 6 (v := ?_) rfl (by kernel_rfl) (by kernel_rfl) (by kernel_rfl) (fun _ _ _ h => h) (Or.inl ⟨by rfl, ?_⟩) (by assumption) ?_
    rotate_left
    · (intro w hSw; go_simp; try with_reducible rfl)
    (try simp only [Act.put, List.setIfInBounds_toArray, List.set_cons_zero, List.set_cons_succ])
    refine takeL 7 (v := ?_) rfl (by kernel_rfl) (by kernel_rfl) (by kernel_rfl) (fun _ _ _ h => h) (Or.inl ⟨by rfl, ?_⟩) (by assumption) ?_
    rotate_left
    · (intro w hSw; go_simp; try with_reducible rfl)
    (try simp only [Act.put, List.setIfInBounds_toArray, List.set_cons_zero, List.set_cons_succ])
    refine takeL 8 (v := ?_) rfl (by kernel_rfl) (by kernel_rfl) (by kernel_rfl) (fun _ _ _ h => h) (Or.inl ⟨by rfl, ?_⟩) (by assumption) ?_
    rotate_left
    · (intro w hSw; go_simp; try with_reducible rfl)
    (try simp only [Act.put, List.setIfInBounds_toArray, List.set_cons_zero, List.set_cons_succ])
    refine takeL 9 (v := ?_) rfl (by kernel_rfl) (by kernel_rfl) (by kernel_rfl) (fun _ _ _ h => h) (Or.inl ⟨by rfl, ?_⟩) (by assumption) ?_
    rotate_left
    · (intro w hSw; go_simp; try with_reducible rfl)
    (try simp only [Act.put, List.setIfInBounds_toArray, List.set_cons_zero, List.set_cons_succ])
    refine takeL 10 (v := ?_) rfl (by kernel_rfl) (by kernel_rfl) (by kernel_rfl) (fun _ _ _ h => h) (Or.inl ⟨by rfl, ?_⟩) (by assumption) ?_
    rotate_left
    · (intro w hSw; go_simp; try with_reducible rfl)
    (try simp only [Act.put, List.setIfInBounds_toArray, List.set_cons_zero, List.set_cons_succ])
    refine takeL 11 (v := ?_) rfl (by kernel_rfl) (by kernel_rfl) (by kernel_rfl) (fun _ _ _ h => h) (Or.inl ⟨by rfl, ?_⟩) (by assumption) ?_
    rotate_left
    · (intro w hSw; go_simp; try with_reducible rfl)
    (try simp only [Act.put, List.setIfInBounds_toArray, List.set_cons_zero, List.set_cons_succ])
    refine takeL 12 (v := ?_) rfl (by kernel_rfl) (by kernel_rfl) (by kernel_rfl) (fun _ _ _ h => h) (Or.inl ⟨by rfl, ?_⟩) (by assumption) ?_
    rotate_left
    · (intro w hSw; go_simp; try with_reducible rfl)
    (try simp only [Act.put, List.setIfInBounds_toArray, List.set_cons_zero, List.set_cons_succ])
    refine takeL 13 (v := ?_) rfl (by kernel_rfl) (by kernel_rfl) (by kernel_rfl) (fun _ _ _ h => h) (Or.inl ⟨by rfl, ?_⟩) (by assumption) ?_
    rotate_left
    · (intro w hSw; go_simp; try with_reducible rfl)
    (try simp only [Act.put, List.setIfInBounds_toArray, List.set_cons_zero, List.set_cons_succ])
    refine takeL 14 (v := ?_) rfl (by kernel_rfl) (by kernel_rfl) (by kernel_rfl) (fun _ _ _ h => h) (Or.inl ⟨by rfl, ?_⟩) (by assumption) ?_
    rotate_left
    · (intro w hSw; go_simp; try with_reducible rfl)
    (try simp only [Act.put, List.setIfInBounds_toArray, List.set_cons_zero, List.set_cons_succ])
    refine takeL 15 (v := ?_) rfl (by kernel_rfl) (by kernel_rfl) (by kernel_rfl) (fun _ _ _ h => h) (Or.inl ⟨by rfl, ?_⟩) (by assumption) ?_
    rotate_left
    · (intro w hSw; go_simp; try with_reducible rfl)
    (try simp only [Act.put, List.setIfInBounds_toArray, List.set_cons_zero, List.set_cons_succ])
    refine takeL 16 (v := ?_) rfl (by kernel_rfl) (by kernel_rfl) (by kernel_rfl) (fun _ _ _ h => h) (Or.inl ⟨by rfl, ?_⟩) (by assumption) ?_
    rotate_left
    · (intro w hSw; go_simp; try with_reducible rfl)
    (try simp only [Act.put, List.setIfInBounds_toArray, List.set_cons_zero, List.set_cons_succ])
    refine takeL 17 (v := ?_) rfl (by kernel_rfl) (by kernel_rfl) (by kernel_rfl) (fun _ _ _ h => h) (Or.inl ⟨by rfl, ?_⟩) (by assumption) ?_
    rotate_left
    · (intro w hSw; go_simp; try with_reducible rfl)
    (try simp only [Act.put, List.setIfInBounds_toArray, List.set_cons_zero, List.set_cons_succ])
    refine takeL 18 (v := ?_) rfl (by kernel_rfl) (by kernel_rfl) (by kernel_rfl) (fun _ _ _ h => h) (Or.inl ⟨by rfl, ?_⟩) (by assumption) ?_
    rotate_left
    · (intro w hSw; go_simp; try with_reducible rfl)
    (try simp only [Act.put, List.setIfInBounds_toArray, List.set_cons_zero, List.set_cons_succ])
    refine takeL 19 (v := ?_) rfl (by kernel_rfl) (by kernel_rfl) (by kernel_rfl) (fun _ _ _ h => h) (Or.inl ⟨by rfl, ?_⟩) (by assumption) ?_
    rotate_left
    · (intro w hSw; go_simp; try with_reducible rfl)
    (try simp only [Act.put, List.setIfInBounds_toArray, List.set_cons_zero, List.set_cons_succ])
    refine takeL 20 (v := ?_) rfl (by kernel_rfl) (by kernel_rfl) (by kernel_rfl) (fun _ _ _ h => h) (Or.inl ⟨by rfl, ?_⟩) (by assumption) ?_
    rotate_left
    · (intro w hSw; go_simp; try with_reducible rfl)
    (try simp only [Act.put, List.setIfInBounds_toArray, List.set_cons_zero, List.set_cons_succ])
    refine takeL 22 (v := ?_) rfl (by kernel_rfl) (by kernel_rfl) (by kernel_rfl) (fun _ _ _ h => h) (Or.inl ⟨by rfl, ?_⟩) (by assumption) ?_
    rotate_left
    · (intro w hSw; go_simp; try with_reducible rfl)
    (try simp only [Act.put, List.setIfInBounds_toArray, List.set_cons_zero, List.set_cons_succ])
    refine stepL 21 rfl (by kernel_rfl) (fun K hK => ?_)
    (go_simp; go_at_call 17; refine (left_any a0 l.length cap0 u0 _ (by omega)).mono ?_; rintro e wF ⟨rfl, hbF⟩)
    refine hK.out _ _ ?_ (fun hHeld => ?_)
    · first | assumption | exact below_next ‹_› ‹_›
    clear hK K
    (try simp only [Act.put, List.setIfInBounds_toArray, List.set_cons_zero, List.set_cons_succ])
    refine stepL 23 rfl (by kernel_rfl) (fun K hK => ?_)
    (go_simp; go_at_call 18; refine (refleft_any a0 l.length cap0 u0 _ (by omega)).mono ?_; rintro e wG ⟨rfl, hbG⟩)
    refine hK.out _ _ ?_ (fun hHeld => ?_)
    · first | assumption | exact below_next ‹_› ‹_›
    clear hK K
    (try simp only [Act.put, List.setIfInBounds_toArray, List.set_cons_zero, List.set_cons_succ])
    refine takeL 24 (v := ?_) rfl (by kernel_rfl) (by kernel_rfl) (by kernel_rfl) (fun _ _ _ h => h) (Or.inl ⟨by rfl, ?_⟩) (by assumption) ?_
    rotate_left
    · (intro w hSw; go_simp; try with_reducible rfl)
    (try simp only [Act.put, List.setIfInBounds_toArray, List.set_cons_zero, List.set_cons_succ])
    refine takeL 25 (v := ?_) rfl (by kernel_rfl) (by kernel_rfl) (by kernel_rfl) (fun _ _ _ h => h) (Or.inl ⟨by rfl, ?_⟩) (by assumption) ?_
    rotate_left
    · (intro w hSw; go_simp; try with_reducible rfl)
    (try simp only [Act.put, List.setIfInBounds_toArray, List.set_cons_zero, List.set_cons_succ])
    refine takeL 26 (v := ?_) rfl (by kernel_rfl) (by kernel_rfl) (by kernel_rfl) (fun _ _ _ h => h) (Or.inl ⟨by rfl, ?_⟩) (by assumption) ?_
    rotate_left
    · (intro w hSw; go_simp; try with_reducible rfl)
    (try simp only [Act.put, List.setIfInBounds_toArray, List.set_cons_zero, List.set_cons_succ])
    refine takeL 27 (v := ?_) rfl (by kernel_rfl) (by kernel_rfl) (by kernel_rfl) (fun _ _ _ h => h) (Or.inl ⟨by rfl, ?_⟩) (by assumption) ?_
    rotate_left
    · (intro w hSw; go_simp; try with_reducible rfl)
    (try simp only [Act.put, List.setIfInBounds_toArray, List.set_cons_zero, List.set_cons_succ])
    refine takeL 28 (v := ?_) rfl (by kernel_rfl) (by kernel_rfl) (by kernel_rfl) (fun _ _ _ h => h) (Or.inl ⟨by rfl, ?_⟩) (by assumption) ?_
    rotate_left
    · (intro w hSw; go_simp; try with_reducible rfl)
    (try simp only [Act.put, List.setIfInBounds_toArray, List.set_cons_zero, List.set_cons_succ])
    refine takeL 30 (v := ?_) rfl (by kernel_rfl) (by kernel_rfl) (by kernel_rfl) (fun _ _ _ h => h) (Or.inl ⟨by rfl, ?_⟩) (by assumption) ?_
    rotate_left
    · (intro w hSw; go_simp; try with_reducible rfl)
    (try simp only [Act.put, List.setIfInBounds_toArray, List.set_cons_zero, List.set_cons_succ])
    refine takeL 31 (v := ?_) rfl (by kernel_rfl) (by kernel_rfl) (by kernel_rfl) (fun _ _ _ h => h) (Or.inl ⟨by rfl, ?_⟩) (by assumption) ?_
    rotate_left
    · (intro w hSw; go_simp; try with_reducible rfl)
    (try simp only [Act.put, List.setIfInBounds_toArray, List.set_cons_zero, List.set_cons_succ])
    refine stepL 29 rfl (by kernel_rfl) (fun K hK => ?_)
    (go_simp; go_at_call 19; refine (textd_any _ _ _ l _ (hk9.below (by assumption)) (by omega)).mono ?_; rintro e wH ⟨rfl, hbH⟩)
    refine hK.out _ _ ?_ (fun hHeld => ?_)
    · first | assumption | exact below_next ‹_› ‹_›
    clear hK K
    (try simp only [Act.put, List.setIfInBounds_toArray, List.set_cons_zero, List.set_cons_succ])
    refine stepL 32 rfl (by kernel_rfl) (fun K hK => ?_)
    (go_simp; go_at_call 20; refine (reftextd_any _ _ _ l _ (hk9.below (by assumption)) (by omega)).mono ?_; rintro e wI ⟨rfl, hbI⟩)
    refine hK.out _ _ ?_ (fun hHeld => ?_)
    · first | assumption | exact below_next ‹_› ‹_›
    clear hK K
    (try simp only [Act.put, List.setIfInBounds_toArray, List.set_cons_zero, List.set_cons_succ])
    refine takeL 33 (v := ?_) rfl (by kernel_rfl) (by kernel_rfl) (by kernel_rfl) (fun _ _ _ h => h) (Or.inl ⟨by rfl, ?_⟩) (by assumption) ?_
    rotate_left
    · (intro w hSw; go_simp; try with_reducible rfl)
    (try simp only [Act.put, List.setIfInBounds_toArray, List.set_cons_zero, List.set_cons_succ])
    refine takeL 34 (v := ?_) rfl (by kernel_rfl) (by kernel_rfl) (by kernel_rfl) (fun _ _ _ h => h) (Or.inl ⟨by rfl, ?_⟩) (by assumption) ?_
    rotate_left
    · (intro w hSw; go_simp; try with_reducible rfl)
    (try simp only [Act.put, List.setIfInBounds_toArray, List.set_cons_zero, List.set_cons_succ])
    refine takeL 35 (v := ?_) rfl (by kernel_rfl) (by kernel_rfl) (by kernel_rfl) (fun _ _ _ h => h) (Or.inl ⟨by rfl, ?_⟩) (by assumption) ?_
    rotate_left
    · (intro w hSw; go_simp; try with_reducible rfl)
    (try simp only [Act.put, List.setIfInBounds_toArray, List.set_cons_zero, List.set_cons_succ])
    refine wpAnyH_done (by kernel_rfl) ?_ _
    refine NoPanic.normal ?_
    have hfin : Below w9.heap.size w9 wI := by assumption
    have hB := hB9.trans (hfin.mono (by have := hB9.size; omega))
    clear gS0 gS1 gT0 gT1 gU0 gU1 gK gL
    go_wp2
    go_ret
    refine ⟨rfl, ?_⟩
    rw [hD]
    exact hB
  · have h12' : 60 < len0 ∨ len0 ≤ 60 ∧ 1000 < s.size := by omega
    clear w0 h12
    go_enter Try.func3, Try.ntmps3
    go_wp2_with fail
    generalize w.alloc (.cells #[.slice a0 len0 cap0, .int .i64 u0] 24) = wa at *
    refine (awake8_any _).mono ?_
    rintro e w1 ⟨rfl, hb1⟩
    obtain ⟨D, hD⟩ : ∃ D, w.heap.size = D := ⟨_, rfl⟩
    have hD1 := blk_on hD0 hb1
    have hB1 := hb0.trans (hb1.mono (Nat.le_of_lt (block_lt hD0)))
    rw [hD] at hD1 hB1
    rw [hD]
    obtain ⟨c0, c1⟩ := src_on hD1 (Below.refl _ w1)
    clear hb1 hb0 hD0
    rcases h12' with h1 | ⟨h1, h2⟩
    all_goals
      go_wp2
      go_ret
      refine ⟨rfl, ?_⟩
      first | exact hB1 | (rw [hD]; exact hB1)
end Go.Proofs.Ytkllljgnpcmojaa
