/- A head's bytes: frame.Write. -/
import Derived.Test.YtdiokmaomglefaaMH
import Derived.Test.YtdiokmaomglefaaMZ
import Derived.Test.YtdiokmaomglefaaGAdler
import Derived.Test.YtdiokmaomglefaaMR
namespace Go.Proofs.Ytdiokmaomglefaa
open Go Go.RowKit

theorem below_next' {a w w' : World} (h : Below w.heap.size w w') (hb : Below a.heap.size a w) : Below a.heap.size a w' := hb.trans (h.mono hb.size)
/-- A head that may be is of natural numbers. -/
theorem hd_nat {h : Hd} (hk : hdOk h = true) : ∃ k a n s p : Nat, h = ⟨k, a, n, s, p⟩ ∧ k ≤ 3 ∧ a ≤ 63 ∧ n ≤ 4096 ∧ s ≤ 4611686018427387903 ∧ p ≤ 4294967295 := by
  obtain ⟨kind, lba, len, seq, epoch⟩ := h
  simp only [hdOk, Bool.and_eq_true, decide_eq_true_eq] at hk
  obtain ⟨⟨⟨⟨⟨h1, h2⟩, h3, h4⟩, h5, h6⟩, h7, h8⟩, h9, h10⟩ := hk
  have h4' : lba ≤ 63 := by split at h4 <;> omega
  have h6' : len ≤ 4096 := by split at h6 <;> omega
  have h5' : 1 ≤ len := by split at h5 <;> omega
  refine ⟨kind.toNat, lba.toNat, len.toNat, seq.toNat, epoch.toNat, ?_, by omega, by omega, by omega, by omega, by omega⟩
  congr 1 <;> omega
def hdW (h : Hd) : List UInt8 := hdBytes h ++ le (adler (hdBytes h)) 4
theorem hdBytes_length (h : Hd) : (hdBytes h).length = 20 := by simp [hdBytes, le_length]
theorem hdW_length (h : Hd) : (hdW h).length = 24 := by simp [hdW, hdBytes_length, le_length]
theorem adler_lt (l : List UInt8) : adler l < 4294967296 := by
  unfold adler
  have h1 : (adl l).2 % 65521 < 65521 := Nat.mod_lt _ (by decide)
  have h2 : (adl l).1 % 65521 < 65521 := Nat.mod_lt _ (by decide)
  omega
set_option maxRecDepth 100000 in
set_option maxHeartbeats 4000000 in
theorem write_any (h : Hd) (hok : hdOk h = true) (w : World) :
    Calls Try.prog 37 #[.agg (hv h)] w fun e w' => (∃ v, e = .returned (.tuple #[v, .int .i64 0]) ∧ w'.ownsRow w.heap.size 5 1 v 24 ((hdW h).map bv)) ∧ Below w.heap.size w w' := by
  have hck := hcheck_any h
  rw [if_pos hok] at hck
  obtain ⟨k, a, n, s, p, rfl, hk, ha, hn, hs, hp⟩ := hd_nat hok
  have HCK := Lib.hid hck
  simp only [hv]
  have hb0 : Below w.heap.size w (w.alloc (.cells #[.int .i64 k, .int .i64 a, .int .i64 n, .int .i64 s, .int .i64 p] 46)) := (Below.refl _ w).alloc (Nat.le_refl _) _
  have hD0 := heap_alloc_new w (.cells #[.int .i64 k, .int .i64 a, .int .i64 n, .int .i64 s, .int .i64 p] 46)
  have hfit : ∀ q ∈ [(1, 81), (1, k), (2, n), (4, a), (8, s), (4, p)], (q.1 = 1 ∨ q.1 = 2 ∨ q.1 = 4 ∨ q.1 = 8) ∧ q.2 < 256 ^ q.1 := by
    intro q hq
    simp only [List.mem_cons, List.not_mem_nil, or_false] at hq
    rcases hq with rfl | rfl | rfl | rfl | rfl | rfl <;> simp <;> omega
  clear hck hok
  obtain ⟨i0, hi, hz0, hz1, hz2⟩ := info_parts info_u8
  obtain ⟨W, hW⟩ : ∃ W, hdW ⟨k, a, n, s, p⟩ = W := ⟨_, rfl⟩
  rw [hW]
  have HW := Lib.hid hW
  clear hW
  go_enter Try.func37, Try.ntmps37
  go_wp2_with fail
  refine (HCK.out _).mono ?_
  rintro e w2 ⟨rfl, hb2⟩
  obtain ⟨D, hD⟩ : ∃ D, w.heap.size = D := ⟨_, rfl⟩
  have hD2 := blk_on hD0 hb2
  have hB2 := hb0.trans (hb2.mono hb0.size)
  rw [hD] at hD2
  rw [hD]
  clear hb0 hb2 hD0 HCK
  have c0 : ∀ w', Below w2.heap.size w2 w' → w'.cell? ⟨D, 0, none⟩ = some (.int .i64 k) := fun w' h => (cell_of_block (blk_on hD2 h) 0).trans rfl
  have c1 : ∀ w', Below w2.heap.size w2 w' → w'.cell? ⟨D, 1, none⟩ = some (.int .i64 a) := fun w' h => (cell_of_block (blk_on hD2 h) 1).trans rfl
  have c2 : ∀ w', Below w2.heap.size w2 w' → w'.cell? ⟨D, 2, none⟩ = some (.int .i64 n) := fun w' h => (cell_of_block (blk_on hD2 h) 2).trans rfl
  have c3 : ∀ w', Below w2.heap.size w2 w' → w'.cell? ⟨D, 3, none⟩ = some (.int .i64 s) := fun w' h => (cell_of_block (blk_on hD2 h) 3).trans rfl
  have c4 : ∀ w', Below w2.heap.size w2 w' → w'.cell? ⟨D, 4, none⟩ = some (.int .i64 p) := fun w' h => (cell_of_block (blk_on hD2 h) 4).trans rfl
  have k1 : IntKind.u64.wrap (k : Int) = k := by rw [IntKind.wrap_u64]; omega
  have k2 : IntKind.u64.wrap (a : Int) = a := by rw [IntKind.wrap_u64]; omega
  have k3 : IntKind.u64.wrap (n : Int) = n := by rw [IntKind.wrap_u64]; omega
  have k4 : IntKind.u64.wrap (s : Int) = s := by rw [IntKind.wrap_u64]; omega
  have k5 : IntKind.u64.wrap (p : Int) = p := by rw [IntKind.wrap_u64]; omega
  have hN := rw_alloc 1 w2 6 (fieldNs [(1, 81), (1, k), (2, n), (4, a), (8, s), (4, p)]) 91 rfl (by decide)
  go_wp2_with fail
  · skip
    refine wp_region_noPanic ?_
    refine wp_region_held_drew (S := (fun w' => Below w2.heap.size w2 w')) (by kernel_rfl) ?_ (fun hHeld => ?_)
    · exact below_self_drew _
    refine takeL 1 (v := ?_) rfl (by kernel_rfl) (by kernel_rfl) (by kernel_rfl) (fun _ _ _ h => h) (Or.inl ⟨by rfl, ?_⟩) (by assumption) ?_
    rotate_left
    · (intro w hSw; go_simp; try with_reducible rfl)
    (try simp only [Act.put, List.setIfInBounds_toArray, List.set_cons_zero, List.set_cons_succ])
    refine takeL 2 (v := ?_) rfl (by kernel_rfl) (by kernel_rfl) (by kernel_rfl) (fun _ _ _ h => h) (Or.inl ⟨by rfl, ?_⟩) (by assumption) ?_
    rotate_left
    · (intro w hSw; go_simp; try with_reducible rfl)
    (try simp only [Act.put, List.setIfInBounds_toArray, List.set_cons_zero, List.set_cons_succ])
    refine takeL 3 (v := ?_) rfl (by kernel_rfl) (by kernel_rfl) (by kernel_rfl) (fun _ _ _ h => h) (Or.inl ⟨by rfl, ?_⟩) (by assumption) ?_
    rotate_left
    · (intro w hSw; go_simp; try with_reducible rfl)
    (try simp only [Act.put, List.setIfInBounds_toArray, List.set_cons_zero, List.set_cons_succ])
    refine takeL 4 (v := ?_) rfl (by kernel_rfl) (by kernel_rfl) (by kernel_rfl) (fun _ _ _ h => h) (Or.inl ⟨by rfl, ?_⟩) (by assumption) ?_
    rotate_left
    · (intro w hSw; go_simp; try with_reducible rfl)
    (try simp only [Act.put, List.setIfInBounds_toArray, List.set_cons_zero, List.set_cons_succ])
    refine takeL 5 (v := ?_) rfl (by kernel_rfl) (by kernel_rfl) (by kernel_rfl) (fun _ _ _ h => h) (Or.inl ⟨by rfl, ?_⟩) (by assumption) ?_
    rotate_left
    · (intro w hSw; go_simp; try with_reducible rfl)
    (try simp only [Act.put, List.setIfInBounds_toArray, List.set_cons_zero, List.set_cons_succ])
    refine takeL 6 (v := ?_) rfl (by kernel_rfl) (by kernel_rfl) (by kernel_rfl) (fun _ _ _ h => h) (Or.inl ⟨by rfl, ?_⟩) (by assumption) ?_
    rotate_left
    · (intro w hSw; go_simp; try with_reducible rfl)
    (try simp only [Act.put, List.setIfInBounds_toArray, List.set_cons_zero, List.set_cons_succ])
    refine takeL 7 (v := ?_) rfl (by kernel_rfl) (by kernel_rfl) (by kernel_rfl) (fun _ _ _ h => h) (Or.inl ⟨by rfl, ?_⟩) (by assumption) ?_
    rotate_left
    · (intro w hSw; go_simp; try with_reducible rfl)
    (try simp only [Act.put, List.setIfInBounds_toArray, List.set_cons_zero, List.set_cons_succ])
    refine takeL 8 (v := ?_) rfl (by kernel_rfl) (by kernel_rfl) (by kernel_rfl) (fun _ _ _ h => h) (Or.inl ⟨by rfl, ?_⟩) (by assumption) ?_
    rotate_left
    · (intro w hSw; go_simp; try with_reducible rfl)
    (try simp only [Act.put, List.setIfInBounds_toArray, List.set_cons_zero, List.set_cons_succ])
    refine takeL 9 (v := ?_) rfl (by kernel_rfl) (by kernel_rfl) (by kernel_rfl) (fun _ _ _ h => h) (Or.inl ⟨by rfl, ?_⟩) (by assumption) ?_
    rotate_left
    · (intro w hSw; go_simp; try with_reducible rfl)
    (try simp only [Act.put, List.setIfInBounds_toArray, List.set_cons_zero, List.set_cons_succ])
    refine takeL 10 (v := ?_) rfl (by kernel_rfl) (by kernel_rfl) (by kernel_rfl) (fun _ _ _ h => h) (Or.inl ⟨by rfl, ?_⟩) (by assumption) ?_
    rotate_left
    · (intro w hSw; go_simp; try with_reducible rfl)
    (try simp only [Act.put, List.setIfInBounds_toArray, List.set_cons_zero, List.set_cons_succ])
    refine takeL 11 (v := ?_) rfl (by kernel_rfl) (by kernel_rfl) (by kernel_rfl) (fun _ _ _ h => h) (Or.inl ⟨by rfl, ?_⟩) (by assumption) ?_
    rotate_left
    · (intro w hSw; go_simp; try with_reducible rfl)
    (try simp only [Act.put, List.setIfInBounds_toArray, List.set_cons_zero, List.set_cons_succ])
    refine takeL 12 (v := ?_) rfl (by kernel_rfl) (by kernel_rfl) (by kernel_rfl) (fun _ _ _ h => h) (Or.inl ⟨by rfl, ?_⟩) (by assumption) ?_
    rotate_left
    · (intro w hSw; go_simp; try with_reducible rfl)
    (try simp only [Act.put, List.setIfInBounds_toArray, List.set_cons_zero, List.set_cons_succ])
    refine takeL 13 (v := ?_) rfl (by kernel_rfl) (by kernel_rfl) (by kernel_rfl) (fun _ _ _ h => h) (Or.inl ⟨by rfl, ?_⟩) (by assumption) ?_
    rotate_left
    · (intro w hSw; go_simp; try with_reducible rfl)
    (try simp only [Act.put, List.setIfInBounds_toArray, List.set_cons_zero, List.set_cons_succ])
    refine takeL 14 (v := ?_) rfl (by kernel_rfl) (by kernel_rfl) (by kernel_rfl) (fun _ _ _ h => h) (Or.inl ⟨by rfl, ?_⟩) (by assumption) ?_
    rotate_left
    · (intro w hSw; go_simp; try with_reducible rfl)
    (try simp only [Act.put, List.setIfInBounds_toArray, List.set_cons_zero, List.set_cons_succ])
    refine takeL 15 (v := ?_) rfl (by kernel_rfl) (by kernel_rfl) (by kernel_rfl) (fun _ _ _ h => h) (Or.inl ⟨by rfl, ?_⟩) (by assumption) ?_
    rotate_left
    · (intro w hSw; go_simp; try with_reducible rfl)
    (try simp only [Act.put, List.setIfInBounds_toArray, List.set_cons_zero, List.set_cons_succ])
    refine wpAnyH_ready (rs := [0, 16]) (by kernel_rfl) (by simp) ?_
    refine consL 0 rfl ?_ (fun K hK => ?_)
    rotate_left
    · skip
      (go_simp; go_at_call 43; refine (sizes_any _).mono ?_; rintro e wS ⟨⟨g, rfl, hrS⟩, hbS⟩)
      refine hK.out _ _ ?_ (fun hHeld => ?_)
      · first | assumption | exact below_next' ‹_› ‹_› | exact Below.alloc ‹_› (Below.size ‹_›) _
      clear hK K
      (try simp only [Act.put, List.setIfInBounds_toArray, List.set_cons_zero, List.set_cons_succ])
      refine stepL 16 rfl (by kernel_rfl) (fun K hK => ?_)
      go_simp
      refine hK.out _ _ ?_ (fun hHeld => ?_)
      · first | assumption | exact below_next' ‹_› ‹_› | exact Below.alloc ‹_› (Below.size ‹_›) _
      clear hK K
      (try simp only [Act.put, List.setIfInBounds_toArray, List.set_cons_zero, List.set_cons_succ])
      refine stepL 17 rfl (by kernel_rfl) (fun K hK => ?_)
      (go_simp; go_at_call 58; refine (fields_any [(1, 81), (1, k), (2, n), (4, a), (8, s), (4, p)] (by simp) hfit _ _ _ _ _ (by first | exact hrS | exact hrS.below ((Below.refl _ wS).alloc (Nat.le_refl _) _)) (by first | exact rw_alloc 1 wS 6 (fieldNs [(1, 81), (1, k), (2, n), (4, a), (8, s), (4, p)]) _ rfl (by decide) | exact hN.below (((Below.refl _ _).drew).trans hbS))).mono ?_; rintro e wF ⟨⟨vF, rfl, hvF⟩, hbF⟩)
      refine hK.out _ _ ?_ (fun hHeld => ?_)
      · first | assumption | exact below_next' ‹_› ‹_› | exact Below.alloc ‹_› (Below.size ‹_›) _
      clear hK K
      (try simp only [Act.put, List.setIfInBounds_toArray, List.set_cons_zero, List.set_cons_succ])
      refine takeL 18 (v := ?_) rfl (by kernel_rfl) (by kernel_rfl) (by kernel_rfl) (fun _ _ _ h => h) (Or.inl ⟨by rfl, ?_⟩) (by assumption) ?_
      rotate_left
      · (intro w hSw; go_simp; try with_reducible rfl)
      (try simp only [Act.put, List.setIfInBounds_toArray, List.set_cons_zero, List.set_cons_succ])
      refine takeL 19 (v := ?_) rfl (by kernel_rfl) (by kernel_rfl) (by kernel_rfl) (fun _ _ _ h => h) (Or.inl ⟨by rfl, ?_⟩) (by assumption) ?_
      rotate_left
      · (intro w hSw; go_simp; try with_reducible rfl)
      (try simp only [Act.put, List.setIfInBounds_toArray, List.set_cons_zero, List.set_cons_succ])
      refine takeL 20 (v := ?_) rfl (by kernel_rfl) (by kernel_rfl) (by kernel_rfl) (fun _ _ _ h => h) (Or.inl ⟨by rfl, ?_⟩) (by assumption) ?_
      rotate_left
      · (intro w hSw; go_simp; try with_reducible rfl)
      (try simp only [Act.put, List.setIfInBounds_toArray, List.set_cons_zero, List.set_cons_succ])
      refine takeL 21 (v := ?_) rfl (by kernel_rfl) (by kernel_rfl) (by kernel_rfl) (fun _ _ _ h => h) (Or.inl ⟨by rfl, ?_⟩) (by assumption) ?_
      rotate_left
      · (intro w hSw; go_simp; try with_reducible rfl)
      (try simp only [Act.put, List.setIfInBounds_toArray, List.set_cons_zero, List.set_cons_succ])
      refine takeL 22 (v := ?_) rfl (by kernel_rfl) (by kernel_rfl) (by kernel_rfl) (fun _ _ _ h => h) (Or.inl ⟨by rfl, ?_⟩) (by assumption) ?_
      rotate_left
      · (intro w hSw; go_simp; try with_reducible rfl)
      (try simp only [Act.put, List.setIfInBounds_toArray, List.set_cons_zero, List.set_cons_succ])
      refine wpAnyH_done (by kernel_rfl) ?_ _
      refine NoPanic.normal ?_
      have hfin : Below w2.heap.size w2 wF := by assumption
      have hBF := hB2.trans (hfin.mono hB2.size)
      have hoF : wF.ownsRow w.heap.size 5 1 vF 20 ((hdBytes ⟨k, a, n, s, p⟩).map bv) := by
        have h0 : wF.ownsRow w.heap.size 5 1 vF _ _ := owns_base hvF (by have h1 := hbS.size; have h2 := hB2.size; simp at h1; simp; omega)
        have hfl : fieldsB [(1, 81), (1, k), (2, n), (4, a), (8, s), (4, p)] = hdBytes ⟨k, a, n, s, p⟩ := by simp [fieldsB, hdBytes]
        rw [hfl, hdBytes_length] at h0
        exact h0
      clear c0 c1 c2 c3 c4 hvF hrS hbS hbF hN hfit hD2 hfin k1 k2 k3 k4 k5
      have hl20 := hdBytes_length ⟨k, a, n, s, p⟩
      unfold hdW at HW
      generalize hdBytes ⟨k, a, n, s, p⟩ = hb at *
      have hbt : Bt wF vF hb := own_bt (by rw [hl20]; exact hoF) (by rw [hl20]; decide)
      obtain ⟨aF, cF, rfl, _⟩ := id hbt
      rw [hl20] at hbt hoF ⊢
      have hadl := adler_lt hb
      have ka : IntKind.u64.wrap (adler hb : Int) = adler hb := by rw [IntKind.wrap_u64]; omega
      go_wp2_with fail
      refine (asumall_any aF 20 cF hb wF hbt).mono ?_
      rintro e w5 ⟨rfl, hb5⟩
      go_wp2_with fail
      refine (put_any (adler hb) 4 (by simp) (by simpa using hadl) _).mono ?_
      rintro e w6 ⟨⟨v6, rfl, hv6⟩, hb6⟩
      have ho6 := owns_below (owns_below hoF hb5) hb6
      have hB6 := hBF.trans ((hb5.trans (hb6.mono hb5.size)).mono hBF.size)
      have hz6 := hB6.size
      go_wp2_with (at_builtin
                   refine wpList_append_rw _ rfl (.tmp 43) (.tmp 44) 24 rfl w.heap.size 5 i0 (.int .u8 0) 1 1 Try.underlying24 hi hz0 hz1 hz2 rfl (by decide) _ _ _ rfl ho6 _ 4 _ rfl (own_rw hv6) (bv_one _) (by decide) (by decide) hz6 ?_
                   intro v7 w7 hown7 hg7)
      go_ret2
      rw [← List.map_append] at hown7
      exact ⟨⟨v7, rfl, HW.out ▸ hown7⟩, hB6.grown hg7 hz6 (fun k hk => (ho6.lt k hk).1)⟩
    refine consL 16 rfl ?_ (fun K hK => ?_)
    rotate_left
    · skip
      go_simp
      refine hK.out _ _ ?_ (fun hHeld => ?_)
      · first | assumption | exact below_next' ‹_› ‹_› | exact Below.alloc ‹_› (Below.size ‹_›) _
      clear hK K
      (try simp only [Act.put, List.setIfInBounds_toArray, List.set_cons_zero, List.set_cons_succ])
      refine stepL 0 rfl (by kernel_rfl) (fun K hK => ?_)
      (go_simp; go_at_call 43; refine (sizes_any _).mono ?_; rintro e wS ⟨⟨g, rfl, hrS⟩, hbS⟩)
      refine hK.out _ _ ?_ (fun hHeld => ?_)
      · first | assumption | exact below_next' ‹_› ‹_› | exact Below.alloc ‹_› (Below.size ‹_›) _
      clear hK K
      (try simp only [Act.put, List.setIfInBounds_toArray, List.set_cons_zero, List.set_cons_succ])
      refine stepL 17 rfl (by kernel_rfl) (fun K hK => ?_)
      (go_simp; go_at_call 58; refine (fields_any [(1, 81), (1, k), (2, n), (4, a), (8, s), (4, p)] (by simp) hfit _ _ _ _ _ (by first | exact hrS | exact hrS.below ((Below.refl _ wS).alloc (Nat.le_refl _) _)) (by first | exact rw_alloc 1 wS 6 (fieldNs [(1, 81), (1, k), (2, n), (4, a), (8, s), (4, p)]) _ rfl (by decide) | exact hN.below (((Below.refl _ _).drew).trans hbS))).mono ?_; rintro e wF ⟨⟨vF, rfl, hvF⟩, hbF⟩)
      refine hK.out _ _ ?_ (fun hHeld => ?_)
      · first | assumption | exact below_next' ‹_› ‹_› | exact Below.alloc ‹_› (Below.size ‹_›) _
      clear hK K
      (try simp only [Act.put, List.setIfInBounds_toArray, List.set_cons_zero, List.set_cons_succ])
      refine takeL 18 (v := ?_) rfl (by kernel_rfl) (by kernel_rfl) (by kernel_rfl) (fun _ _ _ h => h) (Or.inl ⟨by rfl, ?_⟩) (by assumption) ?_
      rotate_left
      · (intro w hSw; go_simp; try with_reducible rfl)
      (try simp only [Act.put, List.setIfInBounds_toArray, List.set_cons_zero, List.set_cons_succ])
      refine takeL 19 (v := ?_) rfl (by kernel_rfl) (by kernel_rfl) (by kernel_rfl) (fun _ _ _ h => h) (Or.inl ⟨by rfl, ?_⟩) (by assumption) ?_
      rotate_left
      · (intro w hSw; go_simp; try with_reducible rfl)
      (try simp only [Act.put, List.setIfInBounds_toArray, List.set_cons_zero, List.set_cons_succ])
      refine takeL 20 (v := ?_) rfl (by kernel_rfl) (by kernel_rfl) (by kernel_rfl) (fun _ _ _ h => h) (Or.inl ⟨by rfl, ?_⟩) (by assumption) ?_
      rotate_left
      · (intro w hSw; go_simp; try with_reducible rfl)
      (try simp only [Act.put, List.setIfInBounds_toArray, List.set_cons_zero, List.set_cons_succ])
      refine takeL 21 (v := ?_) rfl (by kernel_rfl) (by kernel_rfl) (by kernel_rfl) (fun _ _ _ h => h) (Or.inl ⟨by rfl, ?_⟩) (by assumption) ?_
      rotate_left
      · (intro w hSw; go_simp; try with_reducible rfl)
      (try simp only [Act.put, List.setIfInBounds_toArray, List.set_cons_zero, List.set_cons_succ])
      refine takeL 22 (v := ?_) rfl (by kernel_rfl) (by kernel_rfl) (by kernel_rfl) (fun _ _ _ h => h) (Or.inl ⟨by rfl, ?_⟩) (by assumption) ?_
      rotate_left
      · (intro w hSw; go_simp; try with_reducible rfl)
      (try simp only [Act.put, List.setIfInBounds_toArray, List.set_cons_zero, List.set_cons_succ])
      refine wpAnyH_done (by kernel_rfl) ?_ _
      refine NoPanic.normal ?_
      have hfin : Below w2.heap.size w2 wF := by assumption
      have hBF := hB2.trans (hfin.mono hB2.size)
      have hoF : wF.ownsRow w.heap.size 5 1 vF 20 ((hdBytes ⟨k, a, n, s, p⟩).map bv) := by
        have h0 : wF.ownsRow w.heap.size 5 1 vF _ _ := owns_base hvF (by have h1 := hbS.size; have h2 := hB2.size; simp at h1; simp; omega)
        have hfl : fieldsB [(1, 81), (1, k), (2, n), (4, a), (8, s), (4, p)] = hdBytes ⟨k, a, n, s, p⟩ := by simp [fieldsB, hdBytes]
        rw [hfl, hdBytes_length] at h0
        exact h0
      clear c0 c1 c2 c3 c4 hvF hrS hbS hbF hN hfit hD2 hfin k1 k2 k3 k4 k5
      have hl20 := hdBytes_length ⟨k, a, n, s, p⟩
      unfold hdW at HW
      generalize hdBytes ⟨k, a, n, s, p⟩ = hb at *
      have hbt : Bt wF vF hb := own_bt (by rw [hl20]; exact hoF) (by rw [hl20]; decide)
      obtain ⟨aF, cF, rfl, _⟩ := id hbt
      rw [hl20] at hbt hoF ⊢
      have hadl := adler_lt hb
      have ka : IntKind.u64.wrap (adler hb : Int) = adler hb := by rw [IntKind.wrap_u64]; omega
      go_wp2_with fail
      refine (asumall_any aF 20 cF hb wF hbt).mono ?_
      rintro e w5 ⟨rfl, hb5⟩
      go_wp2_with fail
      refine (put_any (adler hb) 4 (by simp) (by simpa using hadl) _).mono ?_
      rintro e w6 ⟨⟨v6, rfl, hv6⟩, hb6⟩
      have ho6 := owns_below (owns_below hoF hb5) hb6
      have hB6 := hBF.trans ((hb5.trans (hb6.mono hb5.size)).mono hBF.size)
      have hz6 := hB6.size
      go_wp2_with (at_builtin
                   refine wpList_append_rw _ rfl (.tmp 43) (.tmp 44) 24 rfl w.heap.size 5 i0 (.int .u8 0) 1 1 Try.underlying24 hi hz0 hz1 hz2 rfl (by decide) _ _ _ rfl ho6 _ 4 _ rfl (own_rw hv6) (bv_one _) (by decide) (by decide) hz6 ?_
                   intro v7 w7 hown7 hg7)
      go_ret2
      rw [← List.map_append] at hown7
      exact ⟨⟨v7, rfl, HW.out ▸ hown7⟩, hB6.grown hg7 hz6 (fun k hk => (ho6.lt k hk).1)⟩
    exact AllReadyH.nil
end Go.Proofs.Ytdiokmaomglefaa
