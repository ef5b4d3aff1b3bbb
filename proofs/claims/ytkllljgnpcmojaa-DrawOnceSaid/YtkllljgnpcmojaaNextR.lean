/- The next key of a source: the reference's. -/
import Derived.Test.YtkllljgnpcmojaaSrc
namespace Go.Proofs.Ytkllljgnpcmojaa
open Go Go.RowKit

set_option linter.unusedSimpArgs false in
set_option maxHeartbeats 4000000 in
theorem refnext_any (a : Option Addr) (n cap : Nat) (l : List Key) (u : Int) (w : World) (h : Ks w (.slice a n cap) l) :
    Calls Try.prog 10 #[.agg #[.slice a n cap, .int .i64 u]] w fun e w' => e = .returned (.tuple #[.agg (kc (nx l u).1).toArray, .agg #[.slice a n cap, .int .i64 (nx l u).2.1], .int .i64 (nx l u).2.2]) ∧ Below w.heap.size w w' := by
  obtain ⟨rfl, hl1, hl2, hl3⟩ := h.len
  have hun := un_le u l.length
  obtain ⟨r, hr⟩ : ∃ r, nx l u = r := ⟨_, rfl⟩
  rw [hr]
  have HR := Lib.hid hr
  clear hr
  go_enter Try.func10, Try.ntmps10
  go_wp2_with fail
  refine (refused_any _ _ _ _ _).mono ?_
  rintro e w2 ⟨rfl, hb2⟩
  obtain ⟨hA, hZ, hY, hB2, hs2⟩ := three_blocks hb2
  have hk2 := h.below hB2
  have HKs := Lib.hid h
  clear hb2 h
  obtain ⟨B, hB⟩ : ∃ B, w.heap.size = B := ⟨_, rfl⟩
  rw [hB] at hA hZ hY hB2 hs2
  rw [hB]
  have HB := Lib.hid hB
  clear hB
  rw [kc_zero] at hZ
  obtain ⟨t, ht⟩ : ∃ t, un u l.length = t := ⟨_, rfl⟩
  rw [ht] at hun
  rw [ht]
  have HT := Lib.hid ht
  clear ht
  have hl0 : ∀ w', Below w2.heap.size w2 w' → w'.cell? ⟨B, 0, none⟩ = some (.slice a l.length cap) := fun w' hw => (hw.cell (p := ⟨B, 0, none⟩) (by show B < _; omega)).trans ((cell_of_block hA 0).trans rfl)
  have HK2 : Kept w B (.cells #[.slice a l.length cap, .int .i64 u] 24) w2 := ⟨hA, hB2⟩
  have hn1 : (0 : Int) ≤ (t : Int) := by omega
  have hn2 : (t : Int) ≤ (l.length : Int) := by omega
  have hn3 : (l.length : Int) ≤ (cap : Int) := by omega
  have hn4 : (t : Int) ≤ (cap : Int) := by omega
  by_cases htl : t = l.length
  · have HE := Lib.hid (nx_none (l := l) (u := u) (HT.out.trans htl))
    have g : ((t : Int) == (l.length : Int)) = true := by simp; omega
    clear htl
    have hl00 := hl0 w2 (Below.refl _ _)
    have HK := HK2
    have hZ3 := hZ
    have hY3 := hY
    have hZ4 : w2.drew.heap[B + 1]? = some (.cells (kc k0).toArray 26 (0, 0)) := hZ3
    have hY4 : w2.drew.heap[B + 1 + 1]? = some (.cells #[.slice none 0 0, .int .i64 0] 24 (0, 0)) := hY3
    have hY5 : (w2.drew.setRow (B + 1) (kc k0).toArray).heap[B + 1 + 1]? = some (.cells #[.slice none 0 0, .int .i64 0] 24 (0, 0)) := (setRow_other _ _ _ _ (by omega)).trans hY4
    have hl5 : ∀ w', Kept w B (.cells #[.slice a l.length cap, .int .i64 u] 24) w' → w'.cell? ⟨B, 0, none⟩ = some (.slice a l.length cap) := fun w' hw => (hw.cell 0).trans rfl
    have hl6 : ∀ w', Kept w B (.cells #[.slice a l.length cap, .int .i64 u] 24) w' → w'.cell? ⟨B, 1, none⟩ = some (.int .i64 u) := fun w' hw => (hw.cell 1).trans rfl
    have hzk := zero_key
    go_wp2_with fail
    refine wp_region_noPanic ?_
    refine wp_region_held_drew (S := (fun w' => Kept w B (.cells #[.slice a l.length cap, .int .i64 u] 24) w')) (by kernel_rfl) ?_ (fun hHeld => ?_)
    · exact HK.drew
    refine takeL 0 (v := ?_) rfl (by kernel_rfl) (by kernel_rfl) (by kernel_rfl) (fun _ _ _ h => h) (Or.inl ⟨by rfl, ?_⟩) (by assumption) ?_
    rotate_left
    · (intro w hSw; go_simp; try with_reducible rfl)
    (try simp only [Act.put, List.setIfInBounds_toArray, List.set_cons_zero, List.set_cons_succ])
    refine takeL 1 (v := ?_) rfl (by kernel_rfl) (by kernel_rfl) (by kernel_rfl) (fun _ _ _ h => h) (Or.inl ⟨by rfl, ?_⟩) (by assumption) ?_
    rotate_left
    · (intro w hSw; go_simp; try with_reducible rfl)
    (try simp only [Act.put, List.setIfInBounds_toArray, List.set_cons_zero, List.set_cons_succ])
    refine stepL 2 rfl (by kernel_rfl) (fun K hK => ?_)
    (rw [if_pos (by rfl)]; refine wp_store_row 26 _ _ (by rfl) (B + 1) (kc k0).toArray (by rfl) (by rfl) 26 _ hZ4 (by rw [kc_size]; exact info_key) (by simp only [kc_size]) (all_oneCell_toArray (kc_one _)) ?_)
    refine hK.out _ _ ?_ (fun hHeld => ?_)
    · first | assumption | exact Kept.setRow ‹_› (by omega) _
    clear hK K
    (try simp only [Act.put, List.setIfInBounds_toArray, List.set_cons_zero, List.set_cons_succ])
    refine stepL 3 rfl (by kernel_rfl) (fun K hK => ?_)
    (rw [if_pos (by rfl)]; refine wp_store_row 24 _ _ (by rfl) (B + 1 + 1) #[.slice a l.length cap, .int .i64 u] (by rfl) (by rfl) 24 _ hY5 info_src rfl (src_one _ _ _ _) ?_)
    refine hK.out _ _ ?_ (fun hHeld => ?_)
    · first | assumption | exact Kept.setRow ‹_› (by omega) _
    clear hK K
    (try simp only [Act.put, List.setIfInBounds_toArray, List.set_cons_zero, List.set_cons_succ])
    refine takeL 4 (v := ?_) rfl (by kernel_rfl) (by kernel_rfl) (by kernel_rfl) (fun _ _ _ h => h) (Or.inl ⟨by rfl, ?_⟩) (by assumption) ?_
    rotate_left
    · (intro w hSw; go_simp; try with_reducible rfl)
    (try simp only [Act.put, List.setIfInBounds_toArray, List.set_cons_zero, List.set_cons_succ])
    refine wpAnyH_done (by kernel_rfl) ?_ _
    refine NoPanic.normal ?_
    go_wp2
    have h1 : ((w2.drew.setRow (B + 1) (kc k0).toArray).setRow (B + 1 + 1) #[.slice a l.length cap, .int .i64 u]).heap[B + 1]? = some (.cells (kc k0).toArray 26 (0, 0)) := (setRow_other _ _ _ _ (by omega)).trans (setRow_heap _ _ _ _ _ _ hZ4)
    have h2 : ((w2.drew.setRow (B + 1) (kc k0).toArray).setRow (B + 1 + 1) #[.slice a l.length cap, .int .i64 u]).heap[B + 1 + 1]? = some (.cells #[.slice a l.length cap, .int .i64 u] 24 (0, 0)) := setRow_heap _ _ _ _ _ _ hY5
    (try simp only [Exit.inBlock, Exit.then])
    refine bodyPost_ret (results_cct rfl _ _ (B + 1) (B + 1 + 1) _ _ _ _ _ _ rfl rfl h1 h2 Try.underlying26 rfl (by rw [kc_size]; exact info_key) Try.underlying24 rfl info_src) rfl ?_
    rw [HE.out] at HR
    obtain rfl := HR.out.symm
    rw [HB.out]
    exact ⟨rfl, hHeld.bel⟩
  · obtain ⟨k, hk⟩ : ∃ k, l[t]? = some k := ⟨_, List.getElem?_eq_getElem (by omega)⟩
    obtain ⟨b, off, rfl, hb, hrg⟩ := HKs.out.at t k hk
    have g : ((t : Int) == (l.length : Int)) = false := by simp; omega
    have hr2 : ∀ w', Below w2.heap.size w2 w' → w'.rangeAt b (off + t * 32) (kc k) := fun w' hw => range_below hrg (((HB.out ▸ hB2 : Below w.heap.size w w2)).trans (hw.mono (by rw [HB.out]; omega))) hb
    have hr : ∀ w', Kept w B (.cells #[.slice (some ⟨b, off, none⟩) l.length cap, .int .i64 u] 24) w' → w'.rangeAt b (off + t * 32) (kc k) := fun w' hw => range_below hrg (HB.out ▸ hw.bel) hb
    have hn0 : (t : Int) < (l.length : Int) := by omega
    have hwr : IntKind.i64.wrap ((t : Int) + 1) = (t : Int) + 1 := IntWalk.i64_in _ (by omega)
    have hkt : l[un u l.length]? = some k := HT.out.symm ▸ hk
    have HKT := Lib.hid hkt
    clear hk hkt htl hrg
    by_cases hkk : k = k0
    · have he := key_eq_is k k0 true (beq_iff_eq.2 hkk)
      have HE := Lib.hid (nx_bad (l := l) (u := u) HKT.out (Or.inl hkk))
      clear hkk
      have hl00 := hl0 w2 (Below.refl _ _)
      have HK := HK2
      have hZ3 := hZ
      have hY3 := hY
      have hzk := zero_key
      go_wp2_with (refine wpList_load_at (by rfl) 26 _ rfl b (off + t * 32) rfl (kc k) _ (hr2 _ (Below.refl _ _)) Try.underlying26 rfl (key_info k) ?_)
      have hZ4 : w2.drew.heap[B + 1]? = some (.cells (kc k0).toArray 26 (0, 0)) := hZ3
      have hY4 : w2.drew.heap[B + 1 + 1]? = some (.cells #[.slice none 0 0, .int .i64 0] 24 (0, 0)) := hY3
      have hY5 : (w2.drew.setRow (B + 1) (kc k0).toArray).heap[B + 1 + 1]? = some (.cells #[.slice none 0 0, .int .i64 0] 24 (0, 0)) := (setRow_other _ _ _ _ (by omega)).trans hY4
      have hl5 : ∀ w', Kept w B (.cells #[.slice (some ⟨b, off, none⟩) l.length cap, .int .i64 u] 24) w' → w'.cell? ⟨B, 0, none⟩ = some (.slice (some ⟨b, off, none⟩) l.length cap) := fun w' hw => (hw.cell 0).trans rfl
      have hl6 : ∀ w', Kept w B (.cells #[.slice (some ⟨b, off, none⟩) l.length cap, .int .i64 u] 24) w' → w'.cell? ⟨B, 1, none⟩ = some (.int .i64 u) := fun w' hw => (hw.cell 1).trans rfl
      refine wp_region_noPanic ?_
      refine wp_region_held_drew (S := (fun w' => Kept w B (.cells #[.slice (some ⟨b, off, none⟩) l.length cap, .int .i64 u] 24) w')) (by kernel_rfl) ?_ (fun hHeld => ?_)
      · exact HK.drew
      refine takeL 0 (v := ?_) rfl (by kernel_rfl) (by kernel_rfl) (by kernel_rfl) (fun _ _ _ h => h) (Or.inl ⟨by rfl, ?_⟩) (by assumption) ?_
      rotate_left
      · (intro w hSw; go_simp; try with_reducible rfl)
      (try simp only [Act.put, List.setIfInBounds_toArray, List.set_cons_zero, List.set_cons_succ])
      refine takeL 1 (v := ?_) rfl (by kernel_rfl) (by kernel_rfl) (by kernel_rfl) (fun _ _ _ h => h) (Or.inl ⟨by rfl, ?_⟩) (by assumption) ?_
      rotate_left
      · (intro w hSw; go_simp; try with_reducible rfl)
      (try simp only [Act.put, List.setIfInBounds_toArray, List.set_cons_zero, List.set_cons_succ])
      refine stepL 2 rfl (by kernel_rfl) (fun K hK => ?_)
      (rw [if_pos (by rfl)]; refine wp_store_row 26 _ _ (by rfl) (B + 1) (kc k0).toArray (by rfl) (by rfl) 26 _ hZ4 (by rw [kc_size]; exact info_key) (by simp only [kc_size]) (all_oneCell_toArray (kc_one _)) ?_)
      refine hK.out _ _ ?_ (fun hHeld => ?_)
      · first | assumption | exact Kept.setRow ‹_› (by omega) _
      clear hK K
      (try simp only [Act.put, List.setIfInBounds_toArray, List.set_cons_zero, List.set_cons_succ])
      refine stepL 3 rfl (by kernel_rfl) (fun K hK => ?_)
      (rw [if_pos (by rfl)]; refine wp_store_row 24 _ _ (by rfl) (B + 1 + 1) #[.slice (some ⟨b, off, none⟩) l.length cap, .int .i64 u] (by rfl) (by rfl) 24 _ hY5 info_src rfl (src_one _ _ _ _) ?_)
      refine hK.out _ _ ?_ (fun hHeld => ?_)
      · first | assumption | exact Kept.setRow ‹_› (by omega) _
      clear hK K
      (try simp only [Act.put, List.setIfInBounds_toArray, List.set_cons_zero, List.set_cons_succ])
      refine takeL 4 (v := ?_) rfl (by kernel_rfl) (by kernel_rfl) (by kernel_rfl) (fun _ _ _ h => h) (Or.inl ⟨by rfl, ?_⟩) (by assumption) ?_
      rotate_left
      · (intro w hSw; go_simp; try with_reducible rfl)
      (try simp only [Act.put, List.setIfInBounds_toArray, List.set_cons_zero, List.set_cons_succ])
      refine wpAnyH_done (by kernel_rfl) ?_ _
      refine NoPanic.normal ?_
      go_wp2
      have h1 : ((w2.drew.setRow (B + 1) (kc k0).toArray).setRow (B + 1 + 1) #[.slice (some ⟨b, off, none⟩) l.length cap, .int .i64 u]).heap[B + 1]? = some (.cells (kc k0).toArray 26 (0, 0)) := (setRow_other _ _ _ _ (by omega)).trans (setRow_heap _ _ _ _ _ _ hZ4)
      have h2 : ((w2.drew.setRow (B + 1) (kc k0).toArray).setRow (B + 1 + 1) #[.slice (some ⟨b, off, none⟩) l.length cap, .int .i64 u]).heap[B + 1 + 1]? = some (.cells #[.slice (some ⟨b, off, none⟩) l.length cap, .int .i64 u] 24 (0, 0)) := setRow_heap _ _ _ _ _ _ hY5
      (try simp only [Exit.inBlock, Exit.then])
      refine bodyPost_ret (results_cct rfl _ _ (B + 1) (B + 1 + 1) _ _ _ _ _ _ rfl rfl h1 h2 Try.underlying26 rfl (by rw [kc_size]; exact info_key) Try.underlying24 rfl info_src) rfl ?_
      rw [HE.out] at HR
      obtain rfl := HR.out.symm
      rw [HB.out]
      exact ⟨rfl, hHeld.bel⟩
    · have he := key_eq_is k k0 false (beq_eq_false_iff_ne.2 hkk)
      have hl00 := hl0 w2 (Below.refl _ _)
      have hzk := zero_key
      have Hkk := Lib.hid hkk
      clear hkk
      go_wp2_with (refine wpList_load_at (by rfl) 26 _ rfl b (off + t * 32) rfl (kc k) _ (hr2 _ (Below.refl _ _)) Try.underlying26 rfl (key_info k) ?_)
      clear he hl00
      go_loopw [6] (fun i wr => ∃ j : Nat, j ≤ t ∧ i = .int .i64 j ∧ Below w2.heap.size w2 wr ∧ k ∉ l.take j) (fun i _ => t - (intOf i).toNat)
      case atStart => exact ⟨0, by omega, rfl, Below.refl _ _, by simp⟩
      case round =>
        obtain ⟨j, hj, rfl, hbw, hno⟩ := hrel
        have Hno := Lib.hid hno
        clear hno
        by_cases hjt : j < t
        · obtain ⟨y, hy⟩ : ∃ y, l[j]? = some y := ⟨_, List.getElem?_eq_getElem (by omega)⟩
          obtain ⟨b', off', hab, _, hry⟩ := HKs.out.at j y hy
          cases hab
          have Hy := Lib.hid hy
          have i1 : (0 : Int) ≤ (j : Int) := by omega
          have i2 : (j : Int) < (l.length : Int) := by omega
          have i3 : (j : Int) < (t : Int) := by omega
          have hl1' : ∀ w', Below wr.heap.size wr w' → w'.cell? ⟨B, 0, none⟩ = some (.slice (some ⟨b, off, none⟩) l.length cap) := fun w' hw => hl0 w' (below_next hw hbw)
          have hrk : ∀ w', Below wr.heap.size wr w' → w'.rangeAt b (off + t * 32) (kc k) := fun w' hw => hr2 w' (below_next hw hbw)
          have hrj : ∀ w', Below wr.heap.size wr w' → w'.rangeAt b (off + j * 32) (kc y) := fun w' hw => range_below hry ((HB.out ▸ hB2 : Below w.heap.size w w2).trans ((below_next hw hbw).mono (by rw [HB.out]; omega))) hb
          clear hy hry
          by_cases hyk : y = k
          · have he := key_eq_is y k true (beq_iff_eq.2 hyk)
            have HE := Lib.hid (nx_bad (l := l) (u := u) HKT.out (Or.inr (by rw [HT.out, ← hyk]; exact List.mem_of_getElem? (i := j) (by rw [List.getElem?_take, if_pos hjt]; exact Hy.out))))
            clear hyk
            go_wp2_with fail
            refine wp_region_noPanic ?_
            refine wp_region_held_drew (S := (fun w' => Below wr.heap.size wr w')) (by kernel_rfl) ?_ (fun hHeld => ?_)
            · exact below_self_drew _
            refine takeL 0 (v := ?_) rfl (by kernel_rfl) (by kernel_rfl) (by kernel_rfl) (fun _ _ _ h => h) (Or.inl ⟨by rfl, ?_⟩) (by assumption) ?_
            rotate_left
            · (intro w hSw; go_simp; try with_reducible rfl)
            (try simp only [Act.put, List.setIfInBounds_toArray, List.set_cons_zero, List.set_cons_succ])
            refine takeL 1 (v := ?_) rfl (by kernel_rfl) (by kernel_rfl) (by kernel_rfl) (fun _ _ _ h => h) (Or.inl ⟨by rfl, ?_⟩) (by assumption) ?_
            rotate_left
            · (intro w hSw; go_simp; try with_reducible rfl)
            (try simp only [Act.put, List.setIfInBounds_toArray, List.set_cons_zero, List.set_cons_succ])
            refine takeL 2 (v := ?_) rfl (by kernel_rfl) (by kernel_rfl) (by kernel_rfl) (fun _ _ _ h => h) (Or.inl ⟨by rfl, ?_⟩) (by assumption) ?_
            rotate_left
            · (intro w hSw; go_simp; try with_reducible rfl)
            (try simp only [Act.put, List.setIfInBounds_toArray, List.set_cons_zero, List.set_cons_succ])
            refine takeL 3 (v := ?_) rfl (by kernel_rfl) (by kernel_rfl) (by kernel_rfl) (fun _ _ _ h => h) (Or.inl ⟨by rfl, ?_⟩) (by assumption) ?_
            rotate_left
            · (intro w hSw; go_simp; try with_reducible rfl)
            (try simp only [Act.put, List.setIfInBounds_toArray, List.set_cons_zero, List.set_cons_succ])
            refine takeL 4 (v := _) rfl (by kernel_rfl) (by kernel_rfl) (by kernel_rfl) (fun _ _ _ h => h) (yieldsIf_load_mid (by rfl) _ _ rfl _ _ rfl (kc y) _ (fun w hSw => hrj _ hSw) Try.underlying26 rfl (key_info _)) (by assumption) ?_
            (try simp only [Act.put, List.setIfInBounds_toArray, List.set_cons_zero, List.set_cons_succ])
            refine takeL 5 (v := ?_) rfl (by kernel_rfl) (by kernel_rfl) (by kernel_rfl) (fun _ _ _ h => h) (Or.inl ⟨by rfl, ?_⟩) (by assumption) ?_
            rotate_left
            · (intro w hSw; go_simp; try with_reducible rfl)
            (try simp only [Act.put, List.setIfInBounds_toArray, List.set_cons_zero, List.set_cons_succ])
            refine takeL 6 (v := ?_) rfl (by kernel_rfl) (by kernel_rfl) (by kernel_rfl) (fun _ _ _ h => h) (Or.inl ⟨by rfl, ?_⟩) (by assumption) ?_
            rotate_left
            · (intro w hSw; go_simp; try with_reducible rfl)
            (try simp only [Act.put, List.setIfInBounds_toArray, List.set_cons_zero, List.set_cons_succ])
            refine takeL 7 (v := ?_) rfl (by kernel_rfl) (by kernel_rfl) (by kernel_rfl) (fun _ _ _ h => h) (Or.inl ⟨by rfl, ?_⟩) (by assumption) ?_
            rotate_left
            · (intro w hSw; go_simp; try with_reducible rfl)
            (try simp only [Act.put, List.setIfInBounds_toArray, List.set_cons_zero, List.set_cons_succ])
            refine takeL 8 (v := ?_) rfl (by kernel_rfl) (by kernel_rfl) (by kernel_rfl) (fun _ _ _ h => h) (Or.inl ⟨by rfl, ?_⟩) (by assumption) ?_
            rotate_left
            · (intro w hSw; go_simp; try with_reducible rfl)
            (try simp only [Act.put, List.setIfInBounds_toArray, List.set_cons_zero, List.set_cons_succ])
            refine takeL 9 (v := _) rfl (by kernel_rfl) (by kernel_rfl) (by kernel_rfl) (fun _ _ _ h => h) (yieldsIf_load_mid (by rfl) _ _ rfl _ _ rfl (kc k) _ (fun w hSw => hrk _ hSw) Try.underlying26 rfl (key_info _)) (by assumption) ?_
            (try simp only [Act.put, List.setIfInBounds_toArray, List.set_cons_zero, List.set_cons_succ])
            refine takeL 10 (v := ?_) rfl (by kernel_rfl) (by kernel_rfl) (by kernel_rfl) (fun _ _ _ h => h) (Or.inl ⟨by rfl, ?_⟩) (by assumption) ?_
            rotate_left
            · (intro w hSw; go_simp; try with_reducible rfl)
            (try simp only [Act.put, List.setIfInBounds_toArray, List.set_cons_zero, List.set_cons_succ])
            refine wpAnyH_done (by kernel_rfl) ?_ _
            refine NoPanic.normal ?_
            obtain ⟨w3, hw3⟩ : ∃ w3, wr.drew = w3 := ⟨_, rfl⟩
            rw [hw3] at hHeld
            rw [hw3]
            clear hw3 he
            have hb23 := below_next hHeld hbw
            have HK := HK2.next hb23
            have hZ3 := (hb23.block _ (block_lt hZ)).trans hZ
            have hY3 := (hb23.block _ (block_lt hY)).trans hY
            clear hHeld
            have hZ4 : w3.drew.heap[B + 1]? = some (.cells (kc k0).toArray 26 (0, 0)) := hZ3
            have hY4 : w3.drew.heap[B + 1 + 1]? = some (.cells #[.slice none 0 0, .int .i64 0] 24 (0, 0)) := hY3
            have hY5 : (w3.drew.setRow (B + 1) (kc k0).toArray).heap[B + 1 + 1]? = some (.cells #[.slice none 0 0, .int .i64 0] 24 (0, 0)) := (setRow_other _ _ _ _ (by omega)).trans hY4
            have hl5 : ∀ w', Kept w B (.cells #[.slice (some ⟨b, off, none⟩) l.length cap, .int .i64 u] 24) w' → w'.cell? ⟨B, 0, none⟩ = some (.slice (some ⟨b, off, none⟩) l.length cap) := fun w' hw => (hw.cell 0).trans rfl
            have hl6 : ∀ w', Kept w B (.cells #[.slice (some ⟨b, off, none⟩) l.length cap, .int .i64 u] 24) w' → w'.cell? ⟨B, 1, none⟩ = some (.int .i64 u) := fun w' hw => (hw.cell 1).trans rfl
            have hzk := zero_key
            go_wp2_with fail
            refine wp_region_noPanic ?_
            refine wp_region_held_drew (S := (fun w' => Kept w B (.cells #[.slice (some ⟨b, off, none⟩) l.length cap, .int .i64 u] 24) w')) (by kernel_rfl) ?_ (fun hHeld => ?_)
            · exact HK.drew
            refine takeL 0 (v := ?_) rfl (by kernel_rfl) (by kernel_rfl) (by kernel_rfl) (fun _ _ _ h => h) (Or.inl ⟨by rfl, ?_⟩) (by assumption) ?_
            rotate_left
            · (intro w hSw; go_simp; try with_reducible rfl)
            (try simp only [Act.put, List.setIfInBounds_toArray, List.set_cons_zero, List.set_cons_succ])
            refine takeL 1 (v := ?_) rfl (by kernel_rfl) (by kernel_rfl) (by kernel_rfl) (fun _ _ _ h => h) (Or.inl ⟨by rfl, ?_⟩) (by assumption) ?_
            rotate_left
            · (intro w hSw; go_simp; try with_reducible rfl)
            (try simp only [Act.put, List.setIfInBounds_toArray, List.set_cons_zero, List.set_cons_succ])
            refine stepL 2 rfl (by kernel_rfl) (fun K hK => ?_)
            (rw [if_pos (by rfl)]; refine wp_store_row 26 _ _ (by rfl) (B + 1) (kc k0).toArray (by rfl) (by rfl) 26 _ hZ4 (by rw [kc_size]; exact info_key) (by simp only [kc_size]) (all_oneCell_toArray (kc_one _)) ?_)
            refine hK.out _ _ ?_ (fun hHeld => ?_)
            · first | assumption | exact Kept.setRow ‹_› (by omega) _
            clear hK K
            (try simp only [Act.put, List.setIfInBounds_toArray, List.set_cons_zero, List.set_cons_succ])
            refine stepL 3 rfl (by kernel_rfl) (fun K hK => ?_)
            (rw [if_pos (by rfl)]; refine wp_store_row 24 _ _ (by rfl) (B + 1 + 1) #[.slice (some ⟨b, off, none⟩) l.length cap, .int .i64 u] (by rfl) (by rfl) 24 _ hY5 info_src rfl (src_one _ _ _ _) ?_)
            refine hK.out _ _ ?_ (fun hHeld => ?_)
            · first | assumption | exact Kept.setRow ‹_› (by omega) _
            clear hK K
            (try simp only [Act.put, List.setIfInBounds_toArray, List.set_cons_zero, List.set_cons_succ])
            refine takeL 4 (v := ?_) rfl (by kernel_rfl) (by kernel_rfl) (by kernel_rfl) (fun _ _ _ h => h) (Or.inl ⟨by rfl, ?_⟩) (by assumption) ?_
            rotate_left
            · (intro w hSw; go_simp; try with_reducible rfl)
            (try simp only [Act.put, List.setIfInBounds_toArray, List.set_cons_zero, List.set_cons_succ])
            refine wpAnyH_done (by kernel_rfl) ?_ _
            refine NoPanic.normal ?_
            go_wp2
            have h1 : ((w3.drew.setRow (B + 1) (kc k0).toArray).setRow (B + 1 + 1) #[.slice (some ⟨b, off, none⟩) l.length cap, .int .i64 u]).heap[B + 1]? = some (.cells (kc k0).toArray 26 (0, 0)) := (setRow_other _ _ _ _ (by omega)).trans (setRow_heap _ _ _ _ _ _ hZ4)
            have h2 : ((w3.drew.setRow (B + 1) (kc k0).toArray).setRow (B + 1 + 1) #[.slice (some ⟨b, off, none⟩) l.length cap, .int .i64 u]).heap[B + 1 + 1]? = some (.cells #[.slice (some ⟨b, off, none⟩) l.length cap, .int .i64 u] 24 (0, 0)) := setRow_heap _ _ _ _ _ _ hY5
            (try simp only [Exit.inBlock, Exit.then])
            refine bodyPost_ret (results_cct rfl _ _ (B + 1) (B + 1 + 1) _ _ _ _ _ _ rfl rfl h1 h2 Try.underlying26 rfl (by rw [kc_size]; exact info_key) Try.underlying24 rfl info_src) rfl ?_
            rw [HE.out] at HR
            obtain rfl := HR.out.symm
            rw [HB.out]
            exact ⟨rfl, hHeld.bel⟩
          · have he := key_eq_is y k false (beq_eq_false_iff_ne.2 hyk)
            have Hyk := Lib.hid hyk
            clear hyk
            go_wp2_with fail
            refine wp_region_noPanic ?_
            refine wp_region_held_drew (S := (fun w' => Below wr.heap.size wr w')) (by kernel_rfl) ?_ (fun hHeld => ?_)
            · exact below_self_drew _
            refine takeL 0 (v := ?_) rfl (by kernel_rfl) (by kernel_rfl) (by kernel_rfl) (fun _ _ _ h => h) (Or.inl ⟨by rfl, ?_⟩) (by assumption) ?_
            rotate_left
            · (intro w hSw; go_simp; try with_reducible rfl)
            (try simp only [Act.put, List.setIfInBounds_toArray, List.set_cons_zero, List.set_cons_succ])
            refine takeL 1 (v := ?_) rfl (by kernel_rfl) (by kernel_rfl) (by kernel_rfl) (fun _ _ _ h => h) (Or.inl ⟨by rfl, ?_⟩) (by assumption) ?_
            rotate_left
            · (intro w hSw; go_simp; try with_reducible rfl)
            (try simp only [Act.put, List.setIfInBounds_toArray, List.set_cons_zero, List.set_cons_succ])
            refine takeL 2 (v := ?_) rfl (by kernel_rfl) (by kernel_rfl) (by kernel_rfl) (fun _ _ _ h => h) (Or.inl ⟨by rfl, ?_⟩) (by assumption) ?_
            rotate_left
            · (intro w hSw; go_simp; try with_reducible rfl)
            (try simp only [Act.put, List.setIfInBounds_toArray, List.set_cons_zero, List.set_cons_succ])
            refine takeL 3 (v := ?_) rfl (by kernel_rfl) (by kernel_rfl) (by kernel_rfl) (fun _ _ _ h => h) (Or.inl ⟨by rfl, ?_⟩) (by assumption) ?_
            rotate_left
            · (intro w hSw; go_simp; try with_reducible rfl)
            (try simp only [Act.put, List.setIfInBounds_toArray, List.set_cons_zero, List.set_cons_succ])
            refine takeL 4 (v := _) rfl (by kernel_rfl) (by kernel_rfl) (by kernel_rfl) (fun _ _ _ h => h) (yieldsIf_load_mid (by rfl) _ _ rfl _ _ rfl (kc y) _ (fun w hSw => hrj _ hSw) Try.underlying26 rfl (key_info _)) (by assumption) ?_
            (try simp only [Act.put, List.setIfInBounds_toArray, List.set_cons_zero, List.set_cons_succ])
            refine takeL 5 (v := ?_) rfl (by kernel_rfl) (by kernel_rfl) (by kernel_rfl) (fun _ _ _ h => h) (Or.inl ⟨by rfl, ?_⟩) (by assumption) ?_
            rotate_left
            · (intro w hSw; go_simp; try with_reducible rfl)
            (try simp only [Act.put, List.setIfInBounds_toArray, List.set_cons_zero, List.set_cons_succ])
            refine takeL 6 (v := ?_) rfl (by kernel_rfl) (by kernel_rfl) (by kernel_rfl) (fun _ _ _ h => h) (Or.inl ⟨by rfl, ?_⟩) (by assumption) ?_
            rotate_left
            · (intro w hSw; go_simp; try with_reducible rfl)
            (try simp only [Act.put, List.setIfInBounds_toArray, List.set_cons_zero, List.set_cons_succ])
            refine takeL 7 (v := ?_) rfl (by kernel_rfl) (by kernel_rfl) (by kernel_rfl) (fun _ _ _ h => h) (Or.inl ⟨by rfl, ?_⟩) (by assumption) ?_
            rotate_left
            · (intro w hSw; go_simp; try with_reducible rfl)
            (try simp only [Act.put, List.setIfInBounds_toArray, List.set_cons_zero, List.set_cons_succ])
            refine takeL 8 (v := ?_) rfl (by kernel_rfl) (by kernel_rfl) (by kernel_rfl) (fun _ _ _ h => h) (Or.inl ⟨by rfl, ?_⟩) (by assumption) ?_
            rotate_left
            · (intro w hSw; go_simp; try with_reducible rfl)
            (try simp only [Act.put, List.setIfInBounds_toArray, List.set_cons_zero, List.set_cons_succ])
            refine takeL 9 (v := _) rfl (by kernel_rfl) (by kernel_rfl) (by kernel_rfl) (fun _ _ _ h => h) (yieldsIf_load_mid (by rfl) _ _ rfl _ _ rfl (kc k) _ (fun w hSw => hrk _ hSw) Try.underlying26 rfl (key_info _)) (by assumption) ?_
            (try simp only [Act.put, List.setIfInBounds_toArray, List.set_cons_zero, List.set_cons_succ])
            refine takeL 10 (v := ?_) rfl (by kernel_rfl) (by kernel_rfl) (by kernel_rfl) (fun _ _ _ h => h) (Or.inl ⟨by rfl, ?_⟩) (by assumption) ?_
            rotate_left
            · (intro w hSw; go_simp; try with_reducible rfl)
            (try simp only [Act.put, List.setIfInBounds_toArray, List.set_cons_zero, List.set_cons_succ])
            refine wpAnyH_done (by kernel_rfl) ?_ _
            refine NoPanic.normal ?_
            go_wp2
            go_roundw
            case rel =>
              refine ⟨j + 1, by omega, by go_num, below_next hHeld hbw, ?_⟩
              have e := Hy.out
              rw [List.getElem?_eq_some_iff] at e
              obtain ⟨_, e⟩ := e
              rw [take_snoc l j (by omega), e]
              simp only [List.mem_append, List.mem_singleton, not_or]
              exact ⟨Hno.out, fun h => Hyk.out h.symm⟩
            case measure => simp [intOf]; omega
        · obtain rfl : j = t := by omega
          have HE := Lib.hid (nx_good (l := l) (u := u) HKT.out (fun h => h.elim Hkk.out (fun h => Hno.out (HT.out ▸ h))))
          obtain ⟨w3, hw3⟩ : ∃ w3, wr = w3 := ⟨_, rfl⟩
          subst hw3
          have HK := HK2.next hbw
          have hZ3 := (hbw.block _ (block_lt hZ)).trans hZ
          have hY3 := (hbw.block _ (block_lt hY)).trans hY
          have hZ4 : wr.drew.heap[B + 1]? = some (.cells (kc k0).toArray 26 (0, 0)) := hZ3
          have hY4 : wr.drew.heap[B + 1 + 1]? = some (.cells #[.slice none 0 0, .int .i64 0] 24 (0, 0)) := hY3
          have hY5 : (wr.drew.setRow (B + 1) (kc k).toArray).heap[B + 1 + 1]? = some (.cells #[.slice none 0 0, .int .i64 0] 24 (0, 0)) := (setRow_other _ _ _ _ (by omega)).trans hY4
          have hl5 : ∀ w', Kept w B (.cells #[.slice (some ⟨b, off, none⟩) l.length cap, .int .i64 u] 24) w' → w'.cell? ⟨B, 0, none⟩ = some (.slice (some ⟨b, off, none⟩) l.length cap) := fun w' hw => (hw.cell 0).trans rfl
          have hl6 : ∀ w', Kept w B (.cells #[.slice (some ⟨b, off, none⟩) l.length cap, .int .i64 u] 24) w' → w'.cell? ⟨B, 1, none⟩ = some (.int .i64 u) := fun w' hw => (hw.cell 1).trans rfl
          have hzk := zero_key
          go_wp2_with fail
          refine wp_region_noPanic ?_
          refine wp_region_held_drew (S := (fun w' => Kept w B (.cells #[.slice (some ⟨b, off, none⟩) l.length cap, .int .i64 u] 24) w')) (by kernel_rfl) ?_ (fun hHeld => ?_)
          · exact HK.drew
          refine takeL 0 (v := ?_) rfl (by kernel_rfl) (by kernel_rfl) (by kernel_rfl) (fun _ _ _ h => h) (Or.inl ⟨by rfl, ?_⟩) (by assumption) ?_
          rotate_left
          · (intro w hSw; go_simp; try with_reducible rfl)
          (try simp only [Act.put, List.setIfInBounds_toArray, List.set_cons_zero, List.set_cons_succ])
          refine takeL 1 (v := ?_) rfl (by kernel_rfl) (by kernel_rfl) (by kernel_rfl) (fun _ _ _ h => h) (Or.inl ⟨by rfl, ?_⟩) (by assumption) ?_
          rotate_left
          · (intro w hSw; go_simp; try with_reducible rfl)
          (try simp only [Act.put, List.setIfInBounds_toArray, List.set_cons_zero, List.set_cons_succ])
          refine takeL 2 (v := ?_) rfl (by kernel_rfl) (by kernel_rfl) (by kernel_rfl) (fun _ _ _ h => h) (Or.inl ⟨by rfl, ?_⟩) (by assumption) ?_
          rotate_left
          · (intro w hSw; go_simp; try with_reducible rfl)
          (try simp only [Act.put, List.setIfInBounds_toArray, List.set_cons_zero, List.set_cons_succ])
          refine takeL 3 (v := ?_) rfl (by kernel_rfl) (by kernel_rfl) (by kernel_rfl) (fun _ _ _ h => h) (Or.inl ⟨by rfl, ?_⟩) (by assumption) ?_
          rotate_left
          · (intro w hSw; go_simp; try with_reducible rfl)
          (try simp only [Act.put, List.setIfInBounds_toArray, List.set_cons_zero, List.set_cons_succ])
          refine takeL 4 (v := _) rfl (by kernel_rfl) (by kernel_rfl) (by kernel_rfl) (fun _ _ _ h => h) (yieldsIf_load_mid (by rfl) _ _ rfl _ _ rfl (kc k) _ (fun w hSw => hr _ hSw) Try.underlying26 rfl (key_info _)) (by assumption) ?_
          (try simp only [Act.put, List.setIfInBounds_toArray, List.set_cons_zero, List.set_cons_succ])
          refine takeL 5 (v := ?_) rfl (by kernel_rfl) (by kernel_rfl) (by kernel_rfl) (fun _ _ _ h => h) (Or.inl ⟨by rfl, ?_⟩) (by assumption) ?_
          rotate_left
          · (intro w hSw; go_simp; try with_reducible rfl)
          (try simp only [Act.put, List.setIfInBounds_toArray, List.set_cons_zero, List.set_cons_succ])
          refine takeL 6 (v := ?_) rfl (by kernel_rfl) (by kernel_rfl) (by kernel_rfl) (fun _ _ _ h => h) (Or.inl ⟨by rfl, ?_⟩) (by assumption) ?_
          rotate_left
          · (intro w hSw; go_simp; try with_reducible rfl)
          (try simp only [Act.put, List.setIfInBounds_toArray, List.set_cons_zero, List.set_cons_succ])
          refine takeL 7 (v := ?_) rfl (by kernel_rfl) (by kernel_rfl) (by kernel_rfl) (fun _ _ _ h => h) (Or.inl ⟨by rfl, ?_⟩) (by assumption) ?_
          rotate_left
          · (intro w hSw; go_simp; try with_reducible rfl)
          (try simp only [Act.put, List.setIfInBounds_toArray, List.set_cons_zero, List.set_cons_succ])
          refine takeL 8 (v := ?_) rfl (by kernel_rfl) (by kernel_rfl) (by kernel_rfl) (fun _ _ _ h => h) (Or.inl ⟨by rfl, ?_⟩) (by assumption) ?_
          rotate_left
          · (intro w hSw; go_simp; try with_reducible rfl)
          (try simp only [Act.put, List.setIfInBounds_toArray, List.set_cons_zero, List.set_cons_succ])
          refine takeL 9 (v := ?_) rfl (by kernel_rfl) (by kernel_rfl) (by kernel_rfl) (fun _ _ _ h => h) (Or.inl ⟨by rfl, ?_⟩) (by assumption) ?_
          rotate_left
          · (intro w hSw; go_simp; try with_reducible rfl)
          (try simp only [Act.put, List.setIfInBounds_toArray, List.set_cons_zero, List.set_cons_succ])
          refine stepL 10 rfl (by kernel_rfl) (fun K hK => ?_)
          (rw [if_pos (by rfl)]; refine wp_store_row 26 _ _ (by rfl) (B + 1) (kc k).toArray (by rfl) (by rfl) 26 _ hZ4 (by rw [kc_size]; exact info_key) (by simp only [kc_size]) (all_oneCell_toArray (kc_one _)) ?_)
          refine hK.out _ _ ?_ (fun hHeld => ?_)
          · first | assumption | exact Kept.setRow ‹_› (by omega) _
          clear hK K
          (try simp only [Act.put, List.setIfInBounds_toArray, List.set_cons_zero, List.set_cons_succ])
          refine stepL 11 rfl (by kernel_rfl) (fun K hK => ?_)
          (rw [if_pos (by rfl)]; refine wp_store_row 24 _ _ (by rfl) (B + 1 + 1) #[.slice (some ⟨b, off, none⟩) l.length cap, .int .i64 ((j : Int) + 1)] (by rfl) (by rfl) 24 _ hY5 info_src rfl (src_one _ _ _ _) ?_)
          refine hK.out _ _ ?_ (fun hHeld => ?_)
          · first | assumption | exact Kept.setRow ‹_› (by omega) _
          clear hK K
          (try simp only [Act.put, List.setIfInBounds_toArray, List.set_cons_zero, List.set_cons_succ])
          refine takeL 12 (v := ?_) rfl (by kernel_rfl) (by kernel_rfl) (by kernel_rfl) (fun _ _ _ h => h) (Or.inl ⟨by rfl, ?_⟩) (by assumption) ?_
          rotate_left
          · (intro w hSw; go_simp; try with_reducible rfl)
          (try simp only [Act.put, List.setIfInBounds_toArray, List.set_cons_zero, List.set_cons_succ])
          refine wpAnyH_done (by kernel_rfl) ?_ _
          refine NoPanic.normal ?_
          go_wp2
          have h1 : ((wr.drew.setRow (B + 1) (kc k).toArray).setRow (B + 1 + 1) #[.slice (some ⟨b, off, none⟩) l.length cap, .int .i64 ((j : Int) + 1)]).heap[B + 1]? = some (.cells (kc k).toArray 26 (0, 0)) := (setRow_other _ _ _ _ (by omega)).trans (setRow_heap _ _ _ _ _ _ hZ4)
          have h2 : ((wr.drew.setRow (B + 1) (kc k).toArray).setRow (B + 1 + 1) #[.slice (some ⟨b, off, none⟩) l.length cap, .int .i64 ((j : Int) + 1)]).heap[B + 1 + 1]? = some (.cells #[.slice (some ⟨b, off, none⟩) l.length cap, .int .i64 ((j : Int) + 1)] 24 (0, 0)) := setRow_heap _ _ _ _ _ _ hY5
          (try simp only [Exit.inBlock, Exit.then])
          refine bodyPost_ret (results_cct rfl _ _ (B + 1) (B + 1 + 1) _ _ _ _ _ _ rfl rfl h1 h2 Try.underlying26 rfl (by rw [kc_size]; exact info_key) Try.underlying24 rfl info_src) rfl ?_
          rw [HE.out] at HR
          obtain rfl := HR.out.symm
          rw [HB.out, HT.out]
          exact ⟨rfl, hHeld.bel⟩
end Go.Proofs.Ytkllljgnpcmojaa
