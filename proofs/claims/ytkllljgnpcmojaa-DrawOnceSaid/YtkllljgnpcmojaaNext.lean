/- The next key of a source: the program's. -/
import Derived.Test.YtkllljgnpcmojaaSrc
namespace Go.Proofs.Ytkllljgnpcmojaa
open Go Go.RowKit

set_option linter.unusedSimpArgs false in
set_option maxHeartbeats 4000000 in
theorem next_any (a : Option Addr) (n cap : Nat) (l : List Key) (u : Int) (w : World) (h : Ks w (.slice a n cap) l) :
    Calls Try.prog 9 #[.agg #[.slice a n cap, .int .i64 u]] w fun e w' => e = .returned (.tuple #[.agg (kc (nx l u).1).toArray, .agg #[.slice a n cap, .int .i64 (nx l u).2.1], .int .i64 (nx l u).2.2]) ∧ Below w.heap.size w w' := by
  obtain ⟨rfl, hl1, hl2, hl3⟩ := h.len
  have hun := un_le u l.length
  obtain ⟨r, hr⟩ : ∃ r, nx l u = r := ⟨_, rfl⟩
  rw [hr]
  have HR := Lib.hid hr
  clear hr
  go_enter Try.func9, Try.ntmps9
  go_wp2_with fail
  refine (used_any _ _ _ _ _).mono ?_
  rintro e w2 ⟨rfl, hb2⟩
  obtain ⟨hA, hZ, hY, hB2, hs2⟩ := three_blocks hb2
  have hk2 := h.below hB2
  have HKs := Lib.hid h
  clear hb2 h
  obtain ⟨B, hB⟩ : ∃ B, w.heap.size = B := ⟨_, rfl⟩
  rw [hB] at hA hZ hY hB2 hs2
  rw [hB]
  have HB := Lib.hid hB
  clear hB
  rw [kc_zero] at hZ
  obtain ⟨t, ht⟩ : ∃ t, un u l.length = t := ⟨_, rfl⟩
  rw [ht] at hun
  rw [ht]
  have HT := Lib.hid ht
  clear ht
  have hl0 : ∀ w', Below w2.heap.size w2 w' → w'.cell? ⟨B, 0, none⟩ = some (.slice a l.length cap) := fun w' hw => (hw.cell (p := ⟨B, 0, none⟩) (by show B < _; omega)).trans ((cell_of_block hA 0).trans rfl)
  have HK2 : Kept w B (.cells #[.slice a l.length cap, .int .i64 u] 24) w2 := ⟨hA, hB2⟩
  have hn1 : (0 : Int) ≤ (t : Int) := by omega
  have hn2 : (t : Int) ≤ (l.length : Int) := by omega
  have hn3 : (l.length : Int) ≤ (cap : Int) := by omega
  have hn4 : (t : Int) ≤ (cap : Int) := by omega
  by_cases htl : t = l.length
  · have hn : t = l.length := htl
    have HE : nx l u = (k0, u, 80) := nx_none (HT.out.trans hn)
    have HE := Lib.hid HE
    have g : ((t : Int) == (l.length : Int)) = true := by simp; omega
    clear htl hn
    go_wp2_with fail
    refine wp_region_noPanic ?_
    refine wp_region_held_drew (S := (fun w' => Below w2.heap.size w2 w')) (by kernel_rfl) ?_ (fun hHeld => ?_)
    · exact below_self_drew _
    refine takeL 0 (v := ?_) rfl (by kernel_rfl) (by kernel_rfl) (by kernel_rfl) (fun _ _ _ h => h) (Or.inl ⟨by rfl, ?_⟩) (by assumption) ?_
    rotate_left
    · (intro w hSw; go_simp; try with_reducible rfl)
    (try simp only [Act.put, List.setIfInBounds_toArray, List.set_cons_zero, List.set_cons_succ])
    refine takeL 1 (v := ?_) rfl (by kernel_rfl) (by kernel_rfl) (by kernel_rfl) (fun _ _ _ h => h) (Or.inl ⟨by rfl, ?_⟩) (by assumption) ?_
    rotate_left
    · (intro w hSw; go_simp; try with_reducible rfl)
    (try simp only [Act.put, List.setIfInBounds_toArray, List.set_cons_zero, List.set_cons_succ])
    refine takeL 2 (v := ?_) rfl (by kernel_rfl) (by kernel_rfl) (by kernel_rfl) (fun _ _ _ h => h) (Or.inl ⟨by rfl, ?_⟩) (by assumption) ?_
    rotate_left
    · (intro w hSw; go_simp; try with_reducible rfl)
    (try simp only [Act.put, List.setIfInBounds_toArray, List.set_cons_zero, List.set_cons_succ])
    refine takeL 3 (v := ?_) rfl (by kernel_rfl) (by kernel_rfl) (by kernel_rfl) (fun _ _ _ h => h) (Or.inl ⟨by rfl, ?_⟩) (by assumption) ?_
    rotate_left
    · (intro w hSw; go_simp; try with_reducible rfl)
    (try simp only [Act.put, List.setIfInBounds_toArray, List.set_cons_zero, List.set_cons_succ])
    refine takeL 4 (v := ?_) rfl (by kernel_rfl) (by kernel_rfl) (by kernel_rfl) (fun _ _ _ h => h) (Or.inl ⟨by rfl, ?_⟩) (by assumption) ?_
    rotate_left
    · (intro w hSw; go_simp; try with_reducible rfl)
    (try simp only [Act.put, List.setIfInBounds_toArray, List.set_cons_zero, List.set_cons_succ])
    refine takeL 5 (v := ?_) rfl (by kernel_rfl) (by kernel_rfl) (by kernel_rfl) (fun _ _ _ h => h) (Or.inl ⟨by rfl, ?_⟩) (by assumption) ?_
    rotate_left
    · (intro w hSw; go_simp; try with_reducible rfl)
    (try simp only [Act.put, List.setIfInBounds_toArray, List.set_cons_zero, List.set_cons_succ])
    refine takeL 6 (v := undef) rfl (by kernel_rfl) (by kernel_rfl) (by kernel_rfl) (fun _ _ _ h => h) (Or.inr ⟨by rfl, rfl⟩) (by assumption) ?_
    (try simp only [Act.put, List.setIfInBounds_toArray, List.set_cons_zero, List.set_cons_succ])
    refine takeL 7 (v := undef) rfl (by kernel_rfl) (by kernel_rfl) (by kernel_rfl) (fun _ _ _ h => h) (Or.inr ⟨by rfl, rfl⟩) (by assumption) ?_
    (try simp only [Act.put, List.setIfInBounds_toArray, List.set_cons_zero, List.set_cons_succ])
    refine takeL 8 (v := undef) rfl (by kernel_rfl) (by kernel_rfl) (by kernel_rfl) (fun _ _ _ h => h) (Or.inr ⟨by rfl, rfl⟩) (by assumption) ?_
    (try simp only [Act.put, List.setIfInBounds_toArray, List.set_cons_zero, List.set_cons_succ])
    refine takeL 9 (v := undef) rfl (by kernel_rfl) (by kernel_rfl) (by kernel_rfl) (fun _ _ _ h => h) (Or.inr ⟨by rfl, rfl⟩) (by assumption) ?_
    (try simp only [Act.put, List.setIfInBounds_toArray, List.set_cons_zero, List.set_cons_succ])
    refine takeL 10 (v := undef) rfl (by kernel_rfl) (by kernel_rfl) (by kernel_rfl) (fun _ _ _ h => h) (Or.inr ⟨by rfl, rfl⟩) (by assumption) ?_
    (try simp only [Act.put, List.setIfInBounds_toArray, List.set_cons_zero, List.set_cons_succ])
    refine takeL 11 (v := undef) rfl (by kernel_rfl) (by kernel_rfl) (by kernel_rfl) (fun _ _ _ h => h) (Or.inr ⟨by rfl, rfl⟩) (by assumption) ?_
    (try simp only [Act.put, List.setIfInBounds_toArray, List.set_cons_zero, List.set_cons_succ])
    refine takeL 12 (v := ?_) rfl (by kernel_rfl) (by kernel_rfl) (by kernel_rfl) (fun _ _ _ h => h) (Or.inl ⟨by rfl, ?_⟩) (by assumption) ?_
    rotate_left
    · (intro w hSw; go_simp; try with_reducible rfl)
    (try simp only [Act.put, List.setIfInBounds_toArray, List.set_cons_zero, List.set_cons_succ])
    refine takeL 13 (v := ?_) rfl (by kernel_rfl) (by kernel_rfl) (by kernel_rfl) (fun _ _ _ h => h) (Or.inl ⟨by rfl, ?_⟩) (by assumption) ?_
    rotate_left
    · (intro w hSw; go_simp; try with_reducible rfl)
    (try simp only [Act.put, List.setIfInBounds_toArray, List.set_cons_zero, List.set_cons_succ])
    refine takeL 14 (v := undef) rfl (by kernel_rfl) (by kernel_rfl) (by kernel_rfl) (fun _ _ _ h => h) (Or.inr ⟨by rfl, rfl⟩) (by assumption) ?_
    (try simp only [Act.put, List.setIfInBounds_toArray, List.set_cons_zero, List.set_cons_succ])
    refine takeL 15 (v := undef) rfl (by kernel_rfl) (by kernel_rfl) (by kernel_rfl) (fun _ _ _ h => h) (Or.inr ⟨by rfl, rfl⟩) (by assumption) ?_
    (try simp only [Act.put, List.setIfInBounds_toArray, List.set_cons_zero, List.set_cons_succ])
    refine takeL 16 (v := undef) rfl (by kernel_rfl) (by kernel_rfl) (by kernel_rfl) (fun _ _ _ h => h) (Or.inr ⟨by rfl, rfl⟩) (by assumption) ?_
    (try simp only [Act.put, List.setIfInBounds_toArray, List.set_cons_zero, List.set_cons_succ])
    refine takeL 17 (v := undef) rfl (by kernel_rfl) (by kernel_rfl) (by kernel_rfl) (fun _ _ _ h => h) (Or.inr ⟨by rfl, rfl⟩) (by assumption) ?_
    (try simp only [Act.put, List.setIfInBounds_toArray, List.set_cons_zero, List.set_cons_succ])
    refine takeL 18 (v := undef) rfl (by kernel_rfl) (by kernel_rfl) (by kernel_rfl) (fun _ _ _ h => h) (Or.inr ⟨by rfl, rfl⟩) (by assumption) ?_
    (try simp only [Act.put, List.setIfInBounds_toArray, List.set_cons_zero, List.set_cons_succ])
    refine takeL 19 (v := undef) rfl (by kernel_rfl) (by kernel_rfl) (by kernel_rfl) (fun _ _ _ h => h) (Or.inr ⟨by rfl, rfl⟩) (by assumption) ?_
    (try simp only [Act.put, List.setIfInBounds_toArray, List.set_cons_zero, List.set_cons_succ])
    refine takeL 20 (v := undef) rfl (by kernel_rfl) (by kernel_rfl) (by kernel_rfl) (fun _ _ _ h => h) (Or.inr ⟨by rfl, rfl⟩) (by assumption) ?_
    (try simp only [Act.put, List.setIfInBounds_toArray, List.set_cons_zero, List.set_cons_succ])
    refine takeL 21 (v := undef) rfl (by kernel_rfl) (by kernel_rfl) (by kernel_rfl) (fun _ _ _ h => h) (Or.inr ⟨by rfl, rfl⟩) (by assumption) ?_
    (try simp only [Act.put, List.setIfInBounds_toArray, List.set_cons_zero, List.set_cons_succ])
    refine takeL 22 (v := undef) rfl (by kernel_rfl) (by kernel_rfl) (by kernel_rfl) (fun _ _ _ h => h) (Or.inr ⟨by rfl, rfl⟩) (by assumption) ?_
    (try simp only [Act.put, List.setIfInBounds_toArray, List.set_cons_zero, List.set_cons_succ])
    refine takeL 23 (v := undef) rfl (by kernel_rfl) (by kernel_rfl) (by kernel_rfl) (fun _ _ _ h => h) (Or.inr ⟨by rfl, rfl⟩) (by assumption) ?_
    (try simp only [Act.put, List.setIfInBounds_toArray, List.set_cons_zero, List.set_cons_succ])
    refine takeL 24 (v := undef) rfl (by kernel_rfl) (by kernel_rfl) (by kernel_rfl) (fun _ _ _ h => h) (Or.inr ⟨by rfl, rfl⟩) (by assumption) ?_
    (try simp only [Act.put, List.setIfInBounds_toArray, List.set_cons_zero, List.set_cons_succ])
    refine takeL 25 (v := ?_) rfl (by kernel_rfl) (by kernel_rfl) (by kernel_rfl) (fun _ _ _ h => h) (Or.inl ⟨by rfl, ?_⟩) (by assumption) ?_
    rotate_left
    · (intro w hSw; go_simp; try with_reducible rfl)
    (try simp only [Act.put, List.setIfInBounds_toArray, List.set_cons_zero, List.set_cons_succ])
    refine wpAnyH_done (by kernel_rfl) ?_ _
    refine NoPanic.normal ?_
    obtain ⟨w3, hw3⟩ : ∃ w3, w2.drew = w3 := ⟨_, rfl⟩
    rw [hw3] at hHeld
    rw [hw3]
    clear hw3
    have HK := HK2.next hHeld
    have hZ3 := (hHeld.block _ (block_lt hZ)).trans hZ
    have hY3 := (hHeld.block _ (block_lt hY)).trans hY
    clear hHeld

    have hZ4 : w3.drew.heap[B + 1]? = some (.cells (kc k0).toArray 26 (0, 0)) := hZ3
    have hY4 : w3.drew.heap[B + 1 + 1]? = some (.cells #[.slice none 0 0, .int .i64 0] 24 (0, 0)) := hY3
    have hY5 : (w3.drew.setRow (B + 1) (kc k0).toArray).heap[B + 1 + 1]? = some (.cells #[.slice none 0 0, .int .i64 0] 24 (0, 0)) := (setRow_other _ _ _ _ (by omega)).trans hY4
    have hl5 : ∀ w', Kept w B (.cells #[.slice a l.length cap, .int .i64 u] 24) w' → w'.cell? ⟨B, 0, none⟩ = some (.slice a l.length cap) := fun w' hw => (hw.cell 0).trans rfl
    have hl6 : ∀ w', Kept w B (.cells #[.slice a l.length cap, .int .i64 u] 24) w' → w'.cell? ⟨B, 1, none⟩ = some (.int .i64 u) := fun w' hw => (hw.cell 1).trans rfl
    go_wp2_with fail
    refine wp_region_noPanic ?_
    refine wp_region_held_drew (S := (fun w' => Kept w B (.cells #[.slice a l.length cap, .int .i64 u] 24) w')) (by kernel_rfl) ?_ (fun hHeld => ?_)
    · exact HK.drew
    refine takeL 1 (v := ?_) rfl (by kernel_rfl) (by kernel_rfl) (by kernel_rfl) (fun _ _ _ h => h) (Or.inl ⟨by rfl, ?_⟩) (by assumption) ?_
    rotate_left
    · (intro w hSw; go_simp; try with_reducible rfl)
    (try simp only [Act.put, List.setIfInBounds_toArray, List.set_cons_zero, List.set_cons_succ])
    refine stepL 0 rfl (by kernel_rfl) (fun K hK => ?_)
    (rw [if_pos (by rfl)]; refine wp_load_row 26 _ (by rfl) (B + 1) (by rfl) 26 _ (0, 0) _ hZ4 Try.underlying26 rfl (by rw [kc_size]; exact info_key) ?_)
    refine hK.out _ _ ?_ (fun hHeld => ?_)
    · first | assumption | exact Kept.setRow ‹_› (by omega) _
    clear hK K
    (try simp only [Act.put, List.setIfInBounds_toArray, List.set_cons_zero, List.set_cons_succ])
    refine stepL 2 rfl (by kernel_rfl) (fun K hK => ?_)
    (rw [if_pos (by rfl)]; refine wp_store_row 26 _ _ (by rfl) (B + 1) (kc k0).toArray (by rfl) (by rfl) 26 _ hZ4 (by rw [kc_size]; exact info_key) (by simp only [kc_size]) (all_oneCell_toArray (kc_one _)) ?_)
    refine hK.out _ _ ?_ (fun hHeld => ?_)
    · first | assumption | exact Kept.setRow ‹_› (by omega) _
    clear hK K
    (try simp only [Act.put, List.setIfInBounds_toArray, List.set_cons_zero, List.set_cons_succ])
    refine stepL 3 rfl (by kernel_rfl) (fun K hK => ?_)
    (rw [if_pos (by rfl)]; refine wp_store_row 24 _ _ (by rfl) (B + 1 + 1) #[.slice a l.length cap, .int .i64 u] (by rfl) (by rfl) 24 _ hY5 info_src rfl (src_one _ _ _ _) ?_)
    refine hK.out _ _ ?_ (fun hHeld => ?_)
    · first | assumption | exact Kept.setRow ‹_› (by omega) _
    clear hK K
    (try simp only [Act.put, List.setIfInBounds_toArray, List.set_cons_zero, List.set_cons_succ])
    refine takeL 4 (v := ?_) rfl (by kernel_rfl) (by kernel_rfl) (by kernel_rfl) (fun _ _ _ h => h) (Or.inl ⟨by rfl, ?_⟩) (by assumption) ?_
    rotate_left
    · (intro w hSw; go_simp; try with_reducible rfl)
    (try simp only [Act.put, List.setIfInBounds_toArray, List.set_cons_zero, List.set_cons_succ])
    refine wpAnyH_done (by kernel_rfl) ?_ _
    refine NoPanic.normal ?_
    go_wp2
    have h1 : ((w3.drew.setRow (B + 1) (kc k0).toArray).setRow (B + 1 + 1) #[.slice a l.length cap, .int .i64 u]).heap[B + 1]? = some (.cells (kc k0).toArray 26 (0, 0)) := (setRow_other _ _ _ _ (by omega)).trans (setRow_heap _ _ _ _ _ _ hZ4)
    have h2 : ((w3.drew.setRow (B + 1) (kc k0).toArray).setRow (B + 1 + 1) #[.slice a l.length cap, .int .i64 u]).heap[B + 1 + 1]? = some (.cells #[.slice a l.length cap, .int .i64 u] 24 (0, 0)) := setRow_heap _ _ _ _ _ _ hY5
    (try simp only [Exit.inBlock, Exit.then])
    refine bodyPost_ret (results_cct rfl _ _ (B + 1) (B + 1 + 1) _ _ _ _ _ _ rfl rfl h1 h2 Try.underlying26 rfl (by rw [kc_size]; exact info_key) Try.underlying24 rfl info_src) rfl ?_
    rw [HE.out] at HR
    obtain rfl := HR.out.symm
    rw [HB.out]
    exact ⟨rfl, hHeld.bel⟩
  · obtain ⟨k, hk⟩ : ∃ k, l[t]? = some k := ⟨_, List.getElem?_eq_getElem (by omega)⟩
    obtain ⟨b, off, rfl, hb, hrg⟩ := HKs.out.at t k hk
    have g : ((t : Int) == (l.length : Int)) = false := by simp; omega
    have hr2 : ∀ w', Below w2.heap.size w2 w' → w'.rangeAt b (off + t * 32) (kc k) := fun w' hw => range_below hrg (((HB.out ▸ hB2 : Below w.heap.size w w2)).trans (hw.mono (by rw [HB.out]; omega))) hb
    have hr : ∀ w', Kept w B (.cells #[.slice (some ⟨b, off, none⟩) l.length cap, .int .i64 u] 24) w' → w'.rangeAt b (off + t * 32) (kc k) := fun w' hw => range_below hrg (HB.out ▸ hw.bel) hb
    have hn0 : (t : Int) < (l.length : Int) := by omega
    have hwr : IntKind.i64.wrap ((t : Int) + 1) = (t : Int) + 1 := IntWalk.i64_in _ (by omega)
    have hkt : l[un u l.length]? = some k := HT.out.symm ▸ hk
    have HKT := Lib.hid hkt
    clear hk hkt htl hrg
    by_cases hkk : k = k0
    · have gk : (k == k0) = true := beq_iff_eq.2 hkk
      have HE := Lib.hid (nx_bad (l := l) (u := u) HKT.out (Or.inl hkk))
      clear hkk
      go_wp2_with fail
      refine wp_region_noPanic ?_
      refine wp_region_held_drew (S := (fun w' => Below w2.heap.size w2 w')) (by kernel_rfl) ?_ (fun hHeld => ?_)
      · exact below_self_drew _
      refine takeL 0 (v := ?_) rfl (by kernel_rfl) (by kernel_rfl) (by kernel_rfl) (fun _ _ _ h => h) (Or.inl ⟨by rfl, ?_⟩) (by assumption) ?_
      rotate_left
      · (intro w hSw; go_simp; try with_reducible rfl)
      (try simp only [Act.put, List.setIfInBounds_toArray, List.set_cons_zero, List.set_cons_succ])
      refine takeL 1 (v := ?_) rfl (by kernel_rfl) (by kernel_rfl) (by kernel_rfl) (fun _ _ _ h => h) (Or.inl ⟨by rfl, ?_⟩) (by assumption) ?_
      rotate_left
      · (intro w hSw; go_simp; try with_reducible rfl)
      (try simp only [Act.put, List.setIfInBounds_toArray, List.set_cons_zero, List.set_cons_succ])
      refine takeL 2 (v := ?_) rfl (by kernel_rfl) (by kernel_rfl) (by kernel_rfl) (fun _ _ _ h => h) (Or.inl ⟨by rfl, ?_⟩) (by assumption) ?_
      rotate_left
      · (intro w hSw; go_simp; try with_reducible rfl)
      (try simp only [Act.put, List.setIfInBounds_toArray, List.set_cons_zero, List.set_cons_succ])
      refine takeL 3 (v := ?_) rfl (by kernel_rfl) (by kernel_rfl) (by kernel_rfl) (fun _ _ _ h => h) (Or.inl ⟨by rfl, ?_⟩) (by assumption) ?_
      rotate_left
      · (intro w hSw; go_simp; try with_reducible rfl)
      (try simp only [Act.put, List.setIfInBounds_toArray, List.set_cons_zero, List.set_cons_succ])
      refine takeL 4 (v := ?_) rfl (by kernel_rfl) (by kernel_rfl) (by kernel_rfl) (fun _ _ _ h => h) (Or.inl ⟨by rfl, ?_⟩) (by assumption) ?_
      rotate_left
      · (intro w hSw; go_simp; try with_reducible rfl)
      (try simp only [Act.put, List.setIfInBounds_toArray, List.set_cons_zero, List.set_cons_succ])
      refine takeL 5 (v := ?_) rfl (by kernel_rfl) (by kernel_rfl) (by kernel_rfl) (fun _ _ _ h => h) (Or.inl ⟨by rfl, ?_⟩) (by assumption) ?_
      rotate_left
      · (intro w hSw; go_simp; try with_reducible rfl)
      (try simp only [Act.put, List.setIfInBounds_toArray, List.set_cons_zero, List.set_cons_succ])
      refine takeL 6 (v := ?_) rfl (by kernel_rfl) (by kernel_rfl) (by kernel_rfl) (fun _ _ _ h => h) (Or.inl ⟨by rfl, ?_⟩) (by assumption) ?_
      rotate_left
      · (intro w hSw; go_simp; try with_reducible rfl)
      (try simp only [Act.put, List.setIfInBounds_toArray, List.set_cons_zero, List.set_cons_succ])
      refine takeL 7 (v := ?_) rfl (by kernel_rfl) (by kernel_rfl) (by kernel_rfl) (fun _ _ _ h => h) (Or.inl ⟨by rfl, ?_⟩) (by assumption) ?_
      rotate_left
      · (intro w hSw; go_simp; try with_reducible rfl)
      (try simp only [Act.put, List.setIfInBounds_toArray, List.set_cons_zero, List.set_cons_succ])
      refine takeL 8 (v := ?_) rfl (by kernel_rfl) (by kernel_rfl) (by kernel_rfl) (fun _ _ _ h => h) (Or.inl ⟨by rfl, ?_⟩) (by assumption) ?_
      rotate_left
      · (intro w hSw; go_simp; try with_reducible rfl)
      (try simp only [Act.put, List.setIfInBounds_toArray, List.set_cons_zero, List.set_cons_succ])
      refine takeL 9 (v := ?_) rfl (by kernel_rfl) (by kernel_rfl) (by kernel_rfl) (fun _ _ _ h => h) (Or.inl ⟨by rfl, ?_⟩) (by assumption) ?_
      rotate_left
      · (intro w hSw; go_simp; try with_reducible rfl)
      (try simp only [Act.put, List.setIfInBounds_toArray, List.set_cons_zero, List.set_cons_succ])
      refine takeL 10 (v := _) rfl (by kernel_rfl) (by kernel_rfl) (by kernel_rfl) (fun _ _ _ h => h) (yieldsIf_load_mid (by rfl) _ _ rfl _ _ rfl (kc k) _ (fun w hSw => hr2 _ hSw) Try.underlying26 rfl (key_info _)) (by assumption) ?_
      (try simp only [Act.put, List.setIfInBounds_toArray, List.set_cons_zero, List.set_cons_succ])
      refine stepL 11 rfl (by kernel_rfl) (fun K hK => ?_)
      (go_simp; go_at_call 21; refine (clean_is k true gk _).mono ?_; rintro e w5 ⟨rfl, hb5⟩)
      refine hK.out _ _ ?_ (fun hHeld => ?_)
      · first | assumption | exact below_next ‹_› ‹_›
      clear hK K
      (try simp only [Act.put, List.setIfInBounds_toArray, List.set_cons_zero, List.set_cons_succ])
      refine takeL 12 (v := ?_) rfl (by kernel_rfl) (by kernel_rfl) (by kernel_rfl) (fun _ _ _ h => h) (Or.inl ⟨by rfl, ?_⟩) (by assumption) ?_
      rotate_left
      · (intro w hSw; go_simp; try with_reducible rfl)
      (try simp only [Act.put, List.setIfInBounds_toArray, List.set_cons_zero, List.set_cons_succ])
      refine takeL 13 (v := ?_) rfl (by kernel_rfl) (by kernel_rfl) (by kernel_rfl) (fun _ _ _ h => h) (Or.inl ⟨by rfl, ?_⟩) (by assumption) ?_
      rotate_left
      · (intro w hSw; go_simp; try with_reducible rfl)
      (try simp only [Act.put, List.setIfInBounds_toArray, List.set_cons_zero, List.set_cons_succ])
      refine takeL 14 (v := undef) rfl (by kernel_rfl) (by kernel_rfl) (by kernel_rfl) (fun _ _ _ h => h) (Or.inr ⟨by rfl, rfl⟩) (by assumption) ?_
      (try simp only [Act.put, List.setIfInBounds_toArray, List.set_cons_zero, List.set_cons_succ])
      refine takeL 15 (v := undef) rfl (by kernel_rfl) (by kernel_rfl) (by kernel_rfl) (fun _ _ _ h => h) (Or.inr ⟨by rfl, rfl⟩) (by assumption) ?_
      (try simp only [Act.put, List.setIfInBounds_toArray, List.set_cons_zero, List.set_cons_succ])
      refine takeL 16 (v := undef) rfl (by kernel_rfl) (by kernel_rfl) (by kernel_rfl) (fun _ _ _ h => h) (Or.inr ⟨by rfl, rfl⟩) (by assumption) ?_
      (try simp only [Act.put, List.setIfInBounds_toArray, List.set_cons_zero, List.set_cons_succ])
      refine takeL 17 (v := undef) rfl (by kernel_rfl) (by kernel_rfl) (by kernel_rfl) (fun _ _ _ h => h) (Or.inr ⟨by rfl, rfl⟩) (by assumption) ?_
      (try simp only [Act.put, List.setIfInBounds_toArray, List.set_cons_zero, List.set_cons_succ])
      refine takeL 18 (v := undef) rfl (by kernel_rfl) (by kernel_rfl) (by kernel_rfl) (fun _ _ _ h => h) (Or.inr ⟨by rfl, rfl⟩) (by assumption) ?_
      (try simp only [Act.put, List.setIfInBounds_toArray, List.set_cons_zero, List.set_cons_succ])
      refine takeL 19 (v := undef) rfl (by kernel_rfl) (by kernel_rfl) (by kernel_rfl) (fun _ _ _ h => h) (Or.inr ⟨by rfl, rfl⟩) (by assumption) ?_
      (try simp only [Act.put, List.setIfInBounds_toArray, List.set_cons_zero, List.set_cons_succ])
      refine takeL 20 (v := undef) rfl (by kernel_rfl) (by kernel_rfl) (by kernel_rfl) (fun _ _ _ h => h) (Or.inr ⟨by rfl, rfl⟩) (by assumption) ?_
      (try simp only [Act.put, List.setIfInBounds_toArray, List.set_cons_zero, List.set_cons_succ])
      refine takeL 21 (v := undef) rfl (by kernel_rfl) (by kernel_rfl) (by kernel_rfl) (fun _ _ _ h => h) (Or.inr ⟨by rfl, rfl⟩) (by assumption) ?_
      (try simp only [Act.put, List.setIfInBounds_toArray, List.set_cons_zero, List.set_cons_succ])
      refine takeL 22 (v := undef) rfl (by kernel_rfl) (by kernel_rfl) (by kernel_rfl) (fun _ _ _ h => h) (Or.inr ⟨by rfl, rfl⟩) (by assumption) ?_
      (try simp only [Act.put, List.setIfInBounds_toArray, List.set_cons_zero, List.set_cons_succ])
      refine takeL 23 (v := undef) rfl (by kernel_rfl) (by kernel_rfl) (by kernel_rfl) (fun _ _ _ h => h) (Or.inr ⟨by rfl, rfl⟩) (by assumption) ?_
      (try simp only [Act.put, List.setIfInBounds_toArray, List.set_cons_zero, List.set_cons_succ])
      refine takeL 24 (v := undef) rfl (by kernel_rfl) (by kernel_rfl) (by kernel_rfl) (fun _ _ _ h => h) (Or.inr ⟨by rfl, rfl⟩) (by assumption) ?_
      (try simp only [Act.put, List.setIfInBounds_toArray, List.set_cons_zero, List.set_cons_succ])
      refine takeL 25 (v := ?_) rfl (by kernel_rfl) (by kernel_rfl) (by kernel_rfl) (fun _ _ _ h => h) (Or.inl ⟨by rfl, ?_⟩) (by assumption) ?_
      rotate_left
      · (intro w hSw; go_simp; try with_reducible rfl)
      (try simp only [Act.put, List.setIfInBounds_toArray, List.set_cons_zero, List.set_cons_succ])
      refine wpAnyH_done (by kernel_rfl) ?_ _
      refine NoPanic.normal ?_
      obtain ⟨w3, hw3⟩ : ∃ w3, w5 = w3 := ⟨_, rfl⟩
      rw [hw3] at hHeld
      rw [hw3]
      clear hw3
      have HK := HK2.next hHeld
      have hZ3 := (hHeld.block _ (block_lt hZ)).trans hZ
      have hY3 := (hHeld.block _ (block_lt hY)).trans hY
      clear hHeld
      have hZ4 : w3.drew.heap[B + 1]? = some (.cells (kc k0).toArray 26 (0, 0)) := hZ3
      have hY4 : w3.drew.heap[B + 1 + 1]? = some (.cells #[.slice none 0 0, .int .i64 0] 24 (0, 0)) := hY3
      have hY5 : (w3.drew.setRow (B + 1) (kc k0).toArray).heap[B + 1 + 1]? = some (.cells #[.slice none 0 0, .int .i64 0] 24 (0, 0)) := (setRow_other _ _ _ _ (by omega)).trans hY4
      have hl5 : ∀ w', Kept w B (.cells #[.slice (some ⟨b, off, none⟩) l.length cap, .int .i64 u] 24) w' → w'.cell? ⟨B, 0, none⟩ = some (.slice (some ⟨b, off, none⟩) l.length cap) := fun w' hw => (hw.cell 0).trans rfl
      have hl6 : ∀ w', Kept w B (.cells #[.slice (some ⟨b, off, none⟩) l.length cap, .int .i64 u] 24) w' → w'.cell? ⟨B, 1, none⟩ = some (.int .i64 u) := fun w' hw => (hw.cell 1).trans rfl
      go_wp2_with fail
      refine wp_region_noPanic ?_
      refine wp_region_held_drew (S := (fun w' => Kept w B (.cells #[.slice (some ⟨b, off, none⟩) l.length cap, .int .i64 u] 24) w')) (by kernel_rfl) ?_ (fun hHeld => ?_)
      · exact HK.drew
      refine takeL 1 (v := ?_) rfl (by kernel_rfl) (by kernel_rfl) (by kernel_rfl) (fun _ _ _ h => h) (Or.inl ⟨by rfl, ?_⟩) (by assumption) ?_
      rotate_left
      · (intro w hSw; go_simp; try with_reducible rfl)
      (try simp only [Act.put, List.setIfInBounds_toArray, List.set_cons_zero, List.set_cons_succ])
      refine stepL 0 rfl (by kernel_rfl) (fun K hK => ?_)
      (rw [if_pos (by rfl)]; refine wp_load_row 26 _ (by rfl) (B + 1) (by rfl) 26 _ (0, 0) _ hZ4 Try.underlying26 rfl (by rw [kc_size]; exact info_key) ?_)
      refine hK.out _ _ ?_ (fun hHeld => ?_)
      · first | assumption | exact Kept.setRow ‹_› (by omega) _
      clear hK K
      (try simp only [Act.put, List.setIfInBounds_toArray, List.set_cons_zero, List.set_cons_succ])
      refine stepL 2 rfl (by kernel_rfl) (fun K hK => ?_)
      (rw [if_pos (by rfl)]; refine wp_store_row 26 _ _ (by rfl) (B + 1) (kc k0).toArray (by rfl) (by rfl) 26 _ hZ4 (by rw [kc_size]; exact info_key) (by simp only [kc_size]) (all_oneCell_toArray (kc_one _)) ?_)
      refine hK.out _ _ ?_ (fun hHeld => ?_)
      · first | assumption | exact Kept.setRow ‹_› (by omega) _
      clear hK K
      (try simp only [Act.put, List.setIfInBounds_toArray, List.set_cons_zero, List.set_cons_succ])
      refine stepL 3 rfl (by kernel_rfl) (fun K hK => ?_)
      (rw [if_pos (by rfl)]; refine wp_store_row 24 _ _ (by rfl) (B + 1 + 1) #[.slice (some ⟨b, off, none⟩) l.length cap, .int .i64 u] (by rfl) (by rfl) 24 _ hY5 info_src rfl (src_one _ _ _ _) ?_)
      refine hK.out _ _ ?_ (fun hHeld => ?_)
      · first | assumption | exact Kept.setRow ‹_› (by omega) _
      clear hK K
      (try simp only [Act.put, List.setIfInBounds_toArray, List.set_cons_zero, List.set_cons_succ])
      refine takeL 4 (v := ?_) rfl (by kernel_rfl) (by kernel_rfl) (by kernel_rfl) (fun _ _ _ h => h) (Or.inl ⟨by rfl, ?_⟩) (by assumption) ?_
      rotate_left
      · (intro w hSw; go_simp; try with_reducible rfl)
      (try simp only [Act.put, List.setIfInBounds_toArray, List.set_cons_zero, List.set_cons_succ])
      refine wpAnyH_done (by kernel_rfl) ?_ _
      refine NoPanic.normal ?_
      go_wp2
      have h1 : ((w3.drew.setRow (B + 1) (kc k0).toArray).setRow (B + 1 + 1) #[.slice (some ⟨b, off, none⟩) l.length cap, .int .i64 u]).heap[B + 1]? = some (.cells (kc k0).toArray 26 (0, 0)) := (setRow_other _ _ _ _ (by omega)).trans (setRow_heap _ _ _ _ _ _ hZ4)
      have h2 : ((w3.drew.setRow (B + 1) (kc k0).toArray).setRow (B + 1 + 1) #[.slice (some ⟨b, off, none⟩) l.length cap, .int .i64 u]).heap[B + 1 + 1]? = some (.cells #[.slice (some ⟨b, off, none⟩) l.length cap, .int .i64 u] 24 (0, 0)) := setRow_heap _ _ _ _ _ _ hY5
      (try simp only [Exit.inBlock, Exit.then])
      refine bodyPost_ret (results_cct rfl _ _ (B + 1) (B + 1 + 1) _ _ _ _ _ _ rfl rfl h1 h2 Try.underlying26 rfl (by rw [kc_size]; exact info_key) Try.underlying24 rfl info_src) rfl ?_
      rw [HE.out] at HR
      obtain rfl := HR.out.symm
      rw [HB.out]
      exact ⟨rfl, hHeld.bel⟩
    · have gk : (k == k0) = false := beq_eq_false_iff_ne.2 hkk
      obtain ⟨d, gd⟩ : ∃ d, decide (k ∈ l.take t) = d := ⟨_, rfl⟩
      have Hkk := Lib.hid hkk
      clear hkk
      go_wp2_with fail
      refine wp_region_noPanic ?_
      refine wp_region_held_drew (S := (fun w' => Below w2.heap.size w2 w')) (by kernel_rfl) ?_ (fun hHeld => ?_)
      · exact below_self_drew _
      refine takeL 0 (v := ?_) rfl (by kernel_rfl) (by kernel_rfl) (by kernel_rfl) (fun _ _ _ h => h) (Or.inl ⟨by rfl, ?_⟩) (by assumption) ?_
      rotate_left
      · (intro w hSw; go_simp; try with_reducible rfl)
      (try simp only [Act.put, List.setIfInBounds_toArray, List.set_cons_zero, List.set_cons_succ])
      refine takeL 1 (v := ?_) rfl (by kernel_rfl) (by kernel_rfl) (by kernel_rfl) (fun _ _ _ h => h) (Or.inl ⟨by rfl, ?_⟩) (by assumption) ?_
      rotate_left
      · (intro w hSw; go_simp; try with_reducible rfl)
      (try simp only [Act.put, List.setIfInBounds_toArray, List.set_cons_zero, List.set_cons_succ])
      refine takeL 2 (v := ?_) rfl (by kernel_rfl) (by kernel_rfl) (by kernel_rfl) (fun _ _ _ h => h) (Or.inl ⟨by rfl, ?_⟩) (by assumption) ?_
      rotate_left
      · (intro w hSw; go_simp; try with_reducible rfl)
      (try simp only [Act.put, List.setIfInBounds_toArray, List.set_cons_zero, List.set_cons_succ])
      refine takeL 3 (v := ?_) rfl (by kernel_rfl) (by kernel_rfl) (by kernel_rfl) (fun _ _ _ h => h) (Or.inl ⟨by rfl, ?_⟩) (by assumption) ?_
      rotate_left
      · (intro w hSw; go_simp; try with_reducible rfl)
      (try simp only [Act.put, List.setIfInBounds_toArray, List.set_cons_zero, List.set_cons_succ])
      refine takeL 4 (v := ?_) rfl (by kernel_rfl) (by kernel_rfl) (by kernel_rfl) (fun _ _ _ h => h) (Or.inl ⟨by rfl, ?_⟩) (by assumption) ?_
      rotate_left
      · (intro w hSw; go_simp; try with_reducible rfl)
      (try simp only [Act.put, List.setIfInBounds_toArray, List.set_cons_zero, List.set_cons_succ])
      refine takeL 5 (v := ?_) rfl (by kernel_rfl) (by kernel_rfl) (by kernel_rfl) (fun _ _ _ h => h) (Or.inl ⟨by rfl, ?_⟩) (by assumption) ?_
      rotate_left
      · (intro w hSw; go_simp; try with_reducible rfl)
      (try simp only [Act.put, List.setIfInBounds_toArray, List.set_cons_zero, List.set_cons_succ])
      refine takeL 6 (v := ?_) rfl (by kernel_rfl) (by kernel_rfl) (by kernel_rfl) (fun _ _ _ h => h) (Or.inl ⟨by rfl, ?_⟩) (by assumption) ?_
      rotate_left
      · (intro w hSw; go_simp; try with_reducible rfl)
      (try simp only [Act.put, List.setIfInBounds_toArray, List.set_cons_zero, List.set_cons_succ])
      refine takeL 7 (v := ?_) rfl (by kernel_rfl) (by kernel_rfl) (by kernel_rfl) (fun _ _ _ h => h) (Or.inl ⟨by rfl, ?_⟩) (by assumption) ?_
      rotate_left
      · (intro w hSw; go_simp; try with_reducible rfl)
      (try simp only [Act.put, List.setIfInBounds_toArray, List.set_cons_zero, List.set_cons_succ])
      refine takeL 8 (v := ?_) rfl (by kernel_rfl) (by kernel_rfl) (by kernel_rfl) (fun _ _ _ h => h) (Or.inl ⟨by rfl, ?_⟩) (by assumption) ?_
      rotate_left
      · (intro w hSw; go_simp; try with_reducible rfl)
      (try simp only [Act.put, List.setIfInBounds_toArray, List.set_cons_zero, List.set_cons_succ])
      refine takeL 9 (v := ?_) rfl (by kernel_rfl) (by kernel_rfl) (by kernel_rfl) (fun _ _ _ h => h) (Or.inl ⟨by rfl, ?_⟩) (by assumption) ?_
      rotate_left
      · (intro w hSw; go_simp; try with_reducible rfl)
      (try simp only [Act.put, List.setIfInBounds_toArray, List.set_cons_zero, List.set_cons_succ])
      refine takeL 10 (v := _) rfl (by kernel_rfl) (by kernel_rfl) (by kernel_rfl) (fun _ _ _ h => h) (yieldsIf_load_mid (by rfl) _ _ rfl _ _ rfl (kc k) _ (fun w hSw => hr2 _ hSw) Try.underlying26 rfl (key_info _)) (by assumption) ?_
      (try simp only [Act.put, List.setIfInBounds_toArray, List.set_cons_zero, List.set_cons_succ])
      refine stepL 11 rfl (by kernel_rfl) (fun K hK => ?_)
      (go_simp; go_at_call 21; refine (clean_is k false gk _).mono ?_; rintro e w5 ⟨rfl, hb5⟩)
      refine hK.out _ _ ?_ (fun hHeld => ?_)
      · first | assumption | exact below_next ‹_› ‹_›
      clear hK K
      (try simp only [Act.put, List.setIfInBounds_toArray, List.set_cons_zero, List.set_cons_succ])
      refine takeL 12 (v := ?_) rfl (by kernel_rfl) (by kernel_rfl) (by kernel_rfl) (fun _ _ _ h => h) (Or.inl ⟨by rfl, ?_⟩) (by assumption) ?_
      rotate_left
      · (intro w hSw; go_simp; try with_reducible rfl)
      (try simp only [Act.put, List.setIfInBounds_toArray, List.set_cons_zero, List.set_cons_succ])
      refine takeL 13 (v := ?_) rfl (by kernel_rfl) (by kernel_rfl) (by kernel_rfl) (fun _ _ _ h => h) (Or.inl ⟨by rfl, ?_⟩) (by assumption) ?_
      rotate_left
      · (intro w hSw; go_simp; try with_reducible rfl)
      (try simp only [Act.put, List.setIfInBounds_toArray, List.set_cons_zero, List.set_cons_succ])
      refine takeL 14 (v := ?_) rfl (by kernel_rfl) (by kernel_rfl) (by kernel_rfl) (fun _ _ _ h => h) (Or.inl ⟨by rfl, ?_⟩) (by assumption) ?_
      rotate_left
      · (intro w hSw; go_simp; try with_reducible rfl)
      (try simp only [Act.put, List.setIfInBounds_toArray, List.set_cons_zero, List.set_cons_succ])
      refine takeL 15 (v := ?_) rfl (by kernel_rfl) (by kernel_rfl) (by kernel_rfl) (fun _ _ _ h => h) (Or.inl ⟨by rfl, ?_⟩) (by assumption) ?_
      rotate_left
      · (intro w hSw; go_simp; try with_reducible rfl)
      (try simp only [Act.put, List.setIfInBounds_toArray, List.set_cons_zero, List.set_cons_succ])
      refine takeL 16 (v := ?_) rfl (by kernel_rfl) (by kernel_rfl) (by kernel_rfl) (fun _ _ _ h => h) (Or.inl ⟨by rfl, ?_⟩) (by assumption) ?_
      rotate_left
      · (intro w hSw; go_simp; try with_reducible rfl)
      (try simp only [Act.put, List.setIfInBounds_toArray, List.set_cons_zero, List.set_cons_succ])
      refine takeL 17 (v := ?_) rfl (by kernel_rfl) (by kernel_rfl) (by kernel_rfl) (fun _ _ _ h => h) (Or.inl ⟨by rfl, ?_⟩) (by assumption) ?_
      rotate_left
      · (intro w hSw; go_simp; try with_reducible rfl)
      (try simp only [Act.put, List.setIfInBounds_toArray, List.set_cons_zero, List.set_cons_succ])
      refine takeL 18 (v := ?_) rfl (by kernel_rfl) (by kernel_rfl) (by kernel_rfl) (fun _ _ _ h => h) (Or.inl ⟨by rfl, ?_⟩) (by assumption) ?_
      rotate_left
      · (intro w hSw; go_simp; try with_reducible rfl)
      (try simp only [Act.put, List.setIfInBounds_toArray, List.set_cons_zero, List.set_cons_succ])
      refine takeL 19 (v := ?_) rfl (by kernel_rfl) (by kernel_rfl) (by kernel_rfl) (fun _ _ _ h => h) (Or.inl ⟨by rfl, ?_⟩) (by assumption) ?_
      rotate_left
      · (intro w hSw; go_simp; try with_reducible rfl)
      (try simp only [Act.put, List.setIfInBounds_toArray, List.set_cons_zero, List.set_cons_succ])
      refine takeL 20 (v := ?_) rfl (by kernel_rfl) (by kernel_rfl) (by kernel_rfl) (fun _ _ _ h => h) (Or.inl ⟨by rfl, ?_⟩) (by assumption) ?_
      rotate_left
      · (intro w hSw; go_simp; try with_reducible rfl)
      (try simp only [Act.put, List.setIfInBounds_toArray, List.set_cons_zero, List.set_cons_succ])
      refine takeL 21 (v := ?_) rfl (by kernel_rfl) (by kernel_rfl) (by kernel_rfl) (fun _ _ _ h => h) (Or.inl ⟨by rfl, ?_⟩) (by assumption) ?_
      rotate_left
      · (intro w hSw; go_simp; try with_reducible rfl)
      (try simp only [Act.put, List.setIfInBounds_toArray, List.set_cons_zero, List.set_cons_succ])
      refine takeL 22 (v := ?_) rfl (by kernel_rfl) (by kernel_rfl) (by kernel_rfl) (fun _ _ _ h => h) (Or.inl ⟨by rfl, ?_⟩) (by assumption) ?_
      rotate_left
      · (intro w hSw; go_simp; try with_reducible rfl)
      (try simp only [Act.put, List.setIfInBounds_toArray, List.set_cons_zero, List.set_cons_succ])
      refine takeL 23 (v := _) rfl (by kernel_rfl) (by kernel_rfl) (by kernel_rfl) (fun _ _ _ h => h) (yieldsIf_load_mid (by rfl) _ _ rfl _ _ rfl (kc k) _ (fun w hSw => hr2 _ hSw) Try.underlying26 rfl (key_info _)) (by assumption) ?_
      (try simp only [Act.put, List.setIfInBounds_toArray, List.set_cons_zero, List.set_cons_succ])
      refine stepL 24 rfl (by kernel_rfl) (fun K hK => ?_)
      (go_simp; go_at_call 26; refine (keyhas_is _ _ _ (l.take t) k d gd _ ((hk2.below ‹_›).take t (by omega))).mono ?_; rintro e w6 ⟨rfl, hb6⟩)
      refine hK.out _ _ ?_ (fun hHeld => ?_)
      · first | assumption | exact below_next ‹_› ‹_›
      clear hK K
      (try simp only [Act.put, List.setIfInBounds_toArray, List.set_cons_zero, List.set_cons_succ])
      refine takeL 25 (v := ?_) rfl (by kernel_rfl) (by kernel_rfl) (by kernel_rfl) (fun _ _ _ h => h) (Or.inl ⟨by rfl, ?_⟩) (by assumption) ?_
      rotate_left
      · (intro w hSw; go_simp; try with_reducible rfl)
      (try simp only [Act.put, List.setIfInBounds_toArray, List.set_cons_zero, List.set_cons_succ])
      refine wpAnyH_done (by kernel_rfl) ?_ _
      refine NoPanic.normal ?_
      obtain ⟨w3, hw3⟩ : ∃ w3, w6 = w3 := ⟨_, rfl⟩
      rw [hw3] at hHeld
      rw [hw3]
      clear hw3
      have HK := HK2.next hHeld
      have hZ3 := (hHeld.block _ (block_lt hZ)).trans hZ
      have hY3 := (hHeld.block _ (block_lt hY)).trans hY
      clear hHeld
      cases d
      · have hd : k ∉ l.take t := by simpa using gd
        have HE := Lib.hid (nx_good (l := l) (u := u) HKT.out (fun h => h.elim Hkk.out (fun h => hd (HT.out ▸ h))))
        clear gd hd
        have hZ4 : w3.drew.heap[B + 1]? = some (.cells (kc k0).toArray 26 (0, 0)) := hZ3
        have hY4 : w3.drew.heap[B + 1 + 1]? = some (.cells #[.slice none 0 0, .int .i64 0] 24 (0, 0)) := hY3
        have hY5 : (w3.drew.setRow (B + 1) (kc k).toArray).heap[B + 1 + 1]? = some (.cells #[.slice none 0 0, .int .i64 0] 24 (0, 0)) := (setRow_other _ _ _ _ (by omega)).trans hY4
        have hl5 : ∀ w', Kept w B (.cells #[.slice (some ⟨b, off, none⟩) l.length cap, .int .i64 u] 24) w' → w'.cell? ⟨B, 0, none⟩ = some (.slice (some ⟨b, off, none⟩) l.length cap) := fun w' hw => (hw.cell 0).trans rfl
        have hl6 : ∀ w', Kept w B (.cells #[.slice (some ⟨b, off, none⟩) l.length cap, .int .i64 u] 24) w' → w'.cell? ⟨B, 1, none⟩ = some (.int .i64 u) := fun w' hw => (hw.cell 1).trans rfl
        go_wp2_with fail
        refine wp_region_noPanic ?_
        refine wp_region_held_drew (S := (fun w' => Kept w B (.cells #[.slice (some ⟨b, off, none⟩) l.length cap, .int .i64 u] 24) w')) (by kernel_rfl) ?_ (fun hHeld => ?_)
        · exact HK.drew
        refine takeL 0 (v := ?_) rfl (by kernel_rfl) (by kernel_rfl) (by kernel_rfl) (fun _ _ _ h => h) (Or.inl ⟨by rfl, ?_⟩) (by assumption) ?_
        rotate_left
        · (intro w hSw; go_simp; try with_reducible rfl)
        (try simp only [Act.put, List.setIfInBounds_toArray, List.set_cons_zero, List.set_cons_succ])
        refine takeL 1 (v := ?_) rfl (by kernel_rfl) (by kernel_rfl) (by kernel_rfl) (fun _ _ _ h => h) (Or.inl ⟨by rfl, ?_⟩) (by assumption) ?_
        rotate_left
        · (intro w hSw; go_simp; try with_reducible rfl)
        (try simp only [Act.put, List.setIfInBounds_toArray, List.set_cons_zero, List.set_cons_succ])
        refine takeL 2 (v := ?_) rfl (by kernel_rfl) (by kernel_rfl) (by kernel_rfl) (fun _ _ _ h => h) (Or.inl ⟨by rfl, ?_⟩) (by assumption) ?_
        rotate_left
        · (intro w hSw; go_simp; try with_reducible rfl)
        (try simp only [Act.put, List.setIfInBounds_toArray, List.set_cons_zero, List.set_cons_succ])
        refine takeL 3 (v := ?_) rfl (by kernel_rfl) (by kernel_rfl) (by kernel_rfl) (fun _ _ _ h => h) (Or.inl ⟨by rfl, ?_⟩) (by assumption) ?_
        rotate_left
        · (intro w hSw; go_simp; try with_reducible rfl)
        (try simp only [Act.put, List.setIfInBounds_toArray, List.set_cons_zero, List.set_cons_succ])
        refine takeL 4 (v := _) rfl (by kernel_rfl) (by kernel_rfl) (by kernel_rfl) (fun _ _ _ h => h) (yieldsIf_load_mid (by rfl) _ _ rfl _ _ rfl (kc k) _ (fun w hSw => hr _ hSw) Try.underlying26 rfl (key_info _)) (by assumption) ?_
        (try simp only [Act.put, List.setIfInBounds_toArray, List.set_cons_zero, List.set_cons_succ])
        refine takeL 5 (v := ?_) rfl (by kernel_rfl) (by kernel_rfl) (by kernel_rfl) (fun _ _ _ h => h) (Or.inl ⟨by rfl, ?_⟩) (by assumption) ?_
        rotate_left
        · (intro w hSw; go_simp; try with_reducible rfl)
        (try simp only [Act.put, List.setIfInBounds_toArray, List.set_cons_zero, List.set_cons_succ])
        refine takeL 6 (v := ?_) rfl (by kernel_rfl) (by kernel_rfl) (by kernel_rfl) (fun _ _ _ h => h) (Or.inl ⟨by rfl, ?_⟩) (by assumption) ?_
        rotate_left
        · (intro w hSw; go_simp; try with_reducible rfl)
        (try simp only [Act.put, List.setIfInBounds_toArray, List.set_cons_zero, List.set_cons_succ])
        refine takeL 7 (v := ?_) rfl (by kernel_rfl) (by kernel_rfl) (by kernel_rfl) (fun _ _ _ h => h) (Or.inl ⟨by rfl, ?_⟩) (by assumption) ?_
        rotate_left
        · (intro w hSw; go_simp; try with_reducible rfl)
        (try simp only [Act.put, List.setIfInBounds_toArray, List.set_cons_zero, List.set_cons_succ])
        refine takeL 8 (v := ?_) rfl (by kernel_rfl) (by kernel_rfl) (by kernel_rfl) (fun _ _ _ h => h) (Or.inl ⟨by rfl, ?_⟩) (by assumption) ?_
        rotate_left
        · (intro w hSw; go_simp; try with_reducible rfl)
        (try simp only [Act.put, List.setIfInBounds_toArray, List.set_cons_zero, List.set_cons_succ])
        refine takeL 9 (v := ?_) rfl (by kernel_rfl) (by kernel_rfl) (by kernel_rfl) (fun _ _ _ h => h) (Or.inl ⟨by rfl, ?_⟩) (by assumption) ?_
        rotate_left
        · (intro w hSw; go_simp; try with_reducible rfl)
        (try simp only [Act.put, List.setIfInBounds_toArray, List.set_cons_zero, List.set_cons_succ])
        refine stepL 10 rfl (by kernel_rfl) (fun K hK => ?_)
        (rw [if_pos (by rfl)]; refine wp_store_row 26 _ _ (by rfl) (B + 1) (kc k).toArray (by rfl) (by rfl) 26 _ hZ4 (by rw [kc_size]; exact info_key) (by simp only [kc_size]) (all_oneCell_toArray (kc_one _)) ?_)
        refine hK.out _ _ ?_ (fun hHeld => ?_)
        · first | assumption | exact Kept.setRow ‹_› (by omega) _
        clear hK K
        (try simp only [Act.put, List.setIfInBounds_toArray, List.set_cons_zero, List.set_cons_succ])
        refine stepL 11 rfl (by kernel_rfl) (fun K hK => ?_)
        (rw [if_pos (by rfl)]; refine wp_store_row 24 _ _ (by rfl) (B + 1 + 1) #[.slice (some ⟨b, off, none⟩) l.length cap, .int .i64 ((t : Int) + 1)] (by rfl) (by rfl) 24 _ hY5 info_src rfl (src_one _ _ _ _) ?_)
        refine hK.out _ _ ?_ (fun hHeld => ?_)
        · first | assumption | exact Kept.setRow ‹_› (by omega) _
        clear hK K
        (try simp only [Act.put, List.setIfInBounds_toArray, List.set_cons_zero, List.set_cons_succ])
        refine takeL 12 (v := ?_) rfl (by kernel_rfl) (by kernel_rfl) (by kernel_rfl) (fun _ _ _ h => h) (Or.inl ⟨by rfl, ?_⟩) (by assumption) ?_
        rotate_left
        · (intro w hSw; go_simp; try with_reducible rfl)
        (try simp only [Act.put, List.setIfInBounds_toArray, List.set_cons_zero, List.set_cons_succ])
        refine wpAnyH_done (by kernel_rfl) ?_ _
        refine NoPanic.normal ?_
        go_wp2
        have h1 : ((w3.drew.setRow (B + 1) (kc k).toArray).setRow (B + 1 + 1) #[.slice (some ⟨b, off, none⟩) l.length cap, .int .i64 ((t : Int) + 1)]).heap[B + 1]? = some (.cells (kc k).toArray 26 (0, 0)) := (setRow_other _ _ _ _ (by omega)).trans (setRow_heap _ _ _ _ _ _ hZ4)
        have h2 : ((w3.drew.setRow (B + 1) (kc k).toArray).setRow (B + 1 + 1) #[.slice (some ⟨b, off, none⟩) l.length cap, .int .i64 ((t : Int) + 1)]).heap[B + 1 + 1]? = some (.cells #[.slice (some ⟨b, off, none⟩) l.length cap, .int .i64 ((t : Int) + 1)] 24 (0, 0)) := setRow_heap _ _ _ _ _ _ hY5
        (try simp only [Exit.inBlock, Exit.then])
        refine bodyPost_ret (results_cct rfl _ _ (B + 1) (B + 1 + 1) _ _ _ _ _ _ rfl rfl h1 h2 Try.underlying26 rfl (by rw [kc_size]; exact info_key) Try.underlying24 rfl info_src) rfl ?_
        rw [HE.out] at HR
        obtain rfl := HR.out.symm
        rw [HB.out, HT.out]
        exact ⟨rfl, hHeld.bel⟩
      · have hd : k ∈ l.take t := by simpa using gd
        have HE := Lib.hid (nx_bad (l := l) (u := u) HKT.out (Or.inr (HT.out.symm ▸ hd)))
        clear gd hd
        have hZ4 : w3.drew.heap[B + 1]? = some (.cells (kc k0).toArray 26 (0, 0)) := hZ3
        have hY4 : w3.drew.heap[B + 1 + 1]? = some (.cells #[.slice none 0 0, .int .i64 0] 24 (0, 0)) := hY3
        have hY5 : (w3.drew.setRow (B + 1) (kc k0).toArray).heap[B + 1 + 1]? = some (.cells #[.slice none 0 0, .int .i64 0] 24 (0, 0)) := (setRow_other _ _ _ _ (by omega)).trans hY4
        have hl5 : ∀ w', Kept w B (.cells #[.slice (some ⟨b, off, none⟩) l.length cap, .int .i64 u] 24) w' → w'.cell? ⟨B, 0, none⟩ = some (.slice (some ⟨b, off, none⟩) l.length cap) := fun w' hw => (hw.cell 0).trans rfl
        have hl6 : ∀ w', Kept w B (.cells #[.slice (some ⟨b, off, none⟩) l.length cap, .int .i64 u] 24) w' → w'.cell? ⟨B, 1, none⟩ = some (.int .i64 u) := fun w' hw => (hw.cell 1).trans rfl
        go_wp2_with fail
        refine wp_region_noPanic ?_
        refine wp_region_held_drew (S := (fun w' => Kept w B (.cells #[.slice (some ⟨b, off, none⟩) l.length cap, .int .i64 u] 24) w')) (by kernel_rfl) ?_ (fun hHeld => ?_)
        · exact HK.drew
        refine takeL 1 (v := ?_) rfl (by kernel_rfl) (by kernel_rfl) (by kernel_rfl) (fun _ _ _ h => h) (Or.inl ⟨by rfl, ?_⟩) (by assumption) ?_
        rotate_left
        · (intro w hSw; go_simp; try with_reducible rfl)
        (try simp only [Act.put, List.setIfInBounds_toArray, List.set_cons_zero, List.set_cons_succ])
        refine stepL 0 rfl (by kernel_rfl) (fun K hK => ?_)
        (rw [if_pos (by rfl)]; refine wp_load_row 26 _ (by rfl) (B + 1) (by rfl) 26 _ (0, 0) _ hZ4 Try.underlying26 rfl (by rw [kc_size]; exact info_key) ?_)
        refine hK.out _ _ ?_ (fun hHeld => ?_)
        · first | assumption | exact Kept.setRow ‹_› (by omega) _
        clear hK K
        (try simp only [Act.put, List.setIfInBounds_toArray, List.set_cons_zero, List.set_cons_succ])
        refine stepL 2 rfl (by kernel_rfl) (fun K hK => ?_)
        (rw [if_pos (by rfl)]; refine wp_store_row 26 _ _ (by rfl) (B + 1) (kc k0).toArray (by rfl) (by rfl) 26 _ hZ4 (by rw [kc_size]; exact info_key) (by simp only [kc_size]) (all_oneCell_toArray (kc_one _)) ?_)
        refine hK.out _ _ ?_ (fun hHeld => ?_)
        · first | assumption | exact Kept.setRow ‹_› (by omega) _
        clear hK K
        (try simp only [Act.put, List.setIfInBounds_toArray, List.set_cons_zero, List.set_cons_succ])
        refine stepL 3 rfl (by kernel_rfl) (fun K hK => ?_)
        (rw [if_pos (by rfl)]; refine wp_store_row 24 _ _ (by rfl) (B + 1 + 1) #[.slice (some ⟨b, off, none⟩) l.length cap, .int .i64 u] (by rfl) (by rfl) 24 _ hY5 info_src rfl (src_one _ _ _ _) ?_)
        refine hK.out _ _ ?_ (fun hHeld => ?_)
        · first | assumption | exact Kept.setRow ‹_› (by omega) _
        clear hK K
        (try simp only [Act.put, List.setIfInBounds_toArray, List.set_cons_zero, List.set_cons_succ])
        refine takeL 4 (v := ?_) rfl (by kernel_rfl) (by kernel_rfl) (by kernel_rfl) (fun _ _ _ h => h) (Or.inl ⟨by rfl, ?_⟩) (by assumption) ?_
        rotate_left
        · (intro w hSw; go_simp; try with_reducible rfl)
        (try simp only [Act.put, List.setIfInBounds_toArray, List.set_cons_zero, List.set_cons_succ])
        refine wpAnyH_done (by kernel_rfl) ?_ _
        refine NoPanic.normal ?_
        go_wp2
        have h1 : ((w3.drew.setRow (B + 1) (kc k0).toArray).setRow (B + 1 + 1) #[.slice (some ⟨b, off, none⟩) l.length cap, .int .i64 u]).heap[B + 1]? = some (.cells (kc k0).toArray 26 (0, 0)) := (setRow_other _ _ _ _ (by omega)).trans (setRow_heap _ _ _ _ _ _ hZ4)
        have h2 : ((w3.drew.setRow (B + 1) (kc k0).toArray).setRow (B + 1 + 1) #[.slice (some ⟨b, off, none⟩) l.length cap, .int .i64 u]).heap[B + 1 + 1]? = some (.cells #[.slice (some ⟨b, off, none⟩) l.length cap, .int .i64 u] 24 (0, 0)) := setRow_heap _ _ _ _ _ _ hY5
        (try simp only [Exit.inBlock, Exit.then])
        refine bodyPost_ret (results_cct rfl _ _ (B + 1) (B + 1 + 1) _ _ _ _ _ _ rfl rfl h1 h2 Try.underlying26 rfl (by rw [kc_size]; exact info_key) Try.underlying24 rfl info_src) rfl ?_
        rw [HE.out] at HR
        obtain rfl := HR.out.symm
        rw [HB.out]
        exact ⟨rfl, hHeld.bel⟩
end Go.Proofs.Ytkllljgnpcmojaa
