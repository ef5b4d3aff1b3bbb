/- One step of a scan: frame.Size, Scan's closure. -/
import Derived.Test.YtdiokmaomglefaaGRead
import Derived.Test.YtdiokmaomglefaaMA
namespace Go.Proofs.Ytdiokmaomglefaa
open Go Go.RowKit

theorem size_any (n : Int) (w : World) : Calls Try.prog 23 #[.int .i64 n] w fun e w' => e = .returned (.int .i64 (sizeF n)) ∧ w' = w := by
  by_cases h : 1 ≤ n ∧ n ≤ 4096
  · have hs : sizeF n = 24 + n + 16 := by unfold sizeF; rw [if_pos h]; omega
    rw [hs]
    obtain ⟨h1, h2⟩ := h
    clear hs
    go_enter Try.func23, Try.ntmps23
    go_wp2_with fail
    refine (within_is n 1 4096 true (decide_eq_true ⟨h1, h2⟩) w).mono ?_
    rintro e w1 ⟨rfl, rfl⟩
    go_wp2
    go_ret
    exact ⟨rfl, rfl⟩
  · have hs : sizeF n = 0 := by unfold sizeF; rw [if_neg h]
    rw [hs]
    have hf := within_is n 1 4096 false (decide_eq_false h) w
    clear hs h
    go_enter Try.func23, Try.ntmps23
    go_wp2_with fail
    refine hf.mono ?_
    rintro e w1 ⟨rfl, rfl⟩
    go_wp2
    go_ret
    exact ⟨rfl, rfl⟩
/-- What one step finds: a head, and how many bytes its frame has (0: none). -/
def stepF (l : List UInt8) (i : Nat) : Hd × Int :=
  match readH (l.drop i) with
  | none => (hd0, 0)
  | some h => if ((l.length - i : Nat) : Int) < sizeF h.len then (h, 0) else (h, sizeF h.len)
set_option linter.unusedSimpArgs false in
set_option maxRecDepth 100000 in
set_option maxHeartbeats 1000000 in
theorem step_any (a : Option Addr) (cap i : Nat) (l : List UInt8) (hat : i ≤ l.length) (Bb A : Nat) (w : World) (h : Bt w (.slice a l.length cap) l)
    (hb : w.cell? ⟨Bb, 0, none⟩ = some (.slice a l.length cap)) (ha : w.cell? ⟨A, 0, none⟩ = some (.int .i64 i)) :
    Calls Try.prog 52 #[.pointer (some ⟨Bb, 0, none⟩), .pointer (some ⟨A, 0, none⟩)] w fun e w' => e = .returned (.tuple #[.agg (hv (stepF l i).1), .int .i64 (stepF l i).2]) ∧ Below w.heap.size w w' := by
  obtain ⟨h20, p1, p2, p3⟩ := h.len
  clear h20
  have hb0 : Below w.heap.size w (w.alloc (.cells #[.int .i64 0, .int .i64 0, .int .i64 0, .int .i64 0, .int .i64 0] 46)) := (Below.refl _ w).alloc (Nat.le_refl _) _
  have hD0 := heap_alloc_new w (.cells #[.int .i64 0, .int .i64 0, .int .i64 0, .int .i64 0, .int .i64 0] 46)
  have lb := World.block_lt_of_cell? w _ hb
  have la := World.block_lt_of_cell? w _ ha
  have hb1 := (hb0.cell (p := ⟨Bb, 0, none⟩) lb).trans hb
  have ha1 := (hb0.cell (p := ⟨A, 0, none⟩) la).trans ha
  have hbt := h.below hb0
  obtain ⟨R, hR⟩ : ∃ R, stepF l i = R := ⟨_, rfl⟩
  rw [hR]
  have HR := Lib.hid hR
  clear hR
  go_enter Try.func52, Try.ntmps52
  go_wp2_with (refine wpList_cut (by rfl) _ _ (by rfl) _ l i (by rfl) (by rfl) hbt hat ?_; intro vc hvc; obtain ⟨ac, cc, rfl, _⟩ := id hvc; rw [List.length_drop] at hvc ⊢)
  refine (fread_any ac (l.length - i) cc (l.drop i) _ hvc).mono ?_
  rintro e w2 ⟨rfl, hb2⟩
  have hD2 := blk_on hD0 hb2
  have hB2 := hb0.trans (hb2.mono hb0.size)
  have hne1 : Bb ≠ w.heap.size := by omega
  have hne2 : A ≠ w.heap.size := by omega
  obtain ⟨D, hD⟩ : ∃ D, w.heap.size = D := ⟨_, rfl⟩
  have hb2' := (hB2.cell (p := ⟨Bb, 0, none⟩) lb).trans hb
  have ha2' := (hB2.cell (p := ⟨A, 0, none⟩) la).trans ha
  rw [hD] at hD2 hB2 hne1 hne2 ⊢
  clear hb1 ha1 hbt hvc hD0 hb0 hb2 h hb ha lb la
  have i1 : (i : Int) ≤ (l.length : Int) := by omega
  cases hR : readH (l.drop i) with
  | none =>
    obtain rfl : R = (hd0, 0) := by rw [← HR.out]; unfold stepF; rw [hR]
    simp only [headR]
    go_wp2_with (refine wpList_lay (by rfl) 46 _ _ (by rfl) D (hv hd0) (by rfl) (by rfl) _ _ hD2 5 (by kernel_rfl) (by rfl) (by rfl) (hv_one _) ?_; intro w3 hL)
    refine wp_region_noPanic ?_
    refine wp_region_held_drew (S := (fun w' => Upto D w3 w')) (by kernel_rfl) ?_ (fun hHeld => ?_)
    · exact (Upto.refl D w3).drew
    refine takeL 0 (v := ?_) rfl (by kernel_rfl) (by kernel_rfl) (by kernel_rfl) (fun _ _ _ h => h) (Or.inl ⟨by rfl, ?_⟩) (by assumption) ?_
    rotate_left
    · (intro w hSw; go_simp; try with_reducible rfl)
    (try simp only [Act.put, List.setIfInBounds_toArray, List.set_cons_zero, List.set_cons_succ])
    refine takeL 1 (v := ?_) rfl (by kernel_rfl) (by kernel_rfl) (by kernel_rfl) (fun _ _ _ h => h) (Or.inl ⟨by rfl, ?_⟩) (by assumption) ?_
    rotate_left
    · (intro w hSw; go_simp; try with_reducible rfl)
    (try simp only [Act.put, List.setIfInBounds_toArray, List.set_cons_zero, List.set_cons_succ])
    refine takeL 2 (v := ?_) rfl (by kernel_rfl) (by kernel_rfl) (by kernel_rfl) (fun _ _ _ h => h) (Or.inl ⟨by rfl, ?_⟩) (by assumption) ?_
    rotate_left
    · (intro w hSw; go_simp; try with_reducible rfl)
    (try simp only [Act.put, List.setIfInBounds_toArray, List.set_cons_zero, List.set_cons_succ])
    refine takeL 3 (v := undef) rfl (by kernel_rfl) (by kernel_rfl) (by kernel_rfl) (fun _ _ _ h => h) (Or.inr ⟨by rfl, rfl⟩) (by assumption) ?_
    (try simp only [Act.put, List.setIfInBounds_toArray, List.set_cons_zero, List.set_cons_succ])
    refine takeL 4 (v := undef) rfl (by kernel_rfl) (by kernel_rfl) (by kernel_rfl) (fun _ _ _ h => h) (Or.inr ⟨by rfl, rfl⟩) (by assumption) ?_
    (try simp only [Act.put, List.setIfInBounds_toArray, List.set_cons_zero, List.set_cons_succ])
    refine takeL 5 (v := undef) rfl (by kernel_rfl) (by kernel_rfl) (by kernel_rfl) (fun _ _ _ h => h) (Or.inr ⟨by rfl, rfl⟩) (by assumption) ?_
    (try simp only [Act.put, List.setIfInBounds_toArray, List.set_cons_zero, List.set_cons_succ])
    refine takeL 6 (v := undef) rfl (by kernel_rfl) (by kernel_rfl) (by kernel_rfl) (fun _ _ _ h => h) (Or.inr ⟨by rfl, rfl⟩) (by assumption) ?_
    (try simp only [Act.put, List.setIfInBounds_toArray, List.set_cons_zero, List.set_cons_succ])
    refine takeL 7 (v := undef) rfl (by kernel_rfl) (by kernel_rfl) (by kernel_rfl) (fun _ _ _ h => h) (Or.inr ⟨by rfl, rfl⟩) (by assumption) ?_
    (try simp only [Act.put, List.setIfInBounds_toArray, List.set_cons_zero, List.set_cons_succ])
    refine takeL 8 (v := undef) rfl (by kernel_rfl) (by kernel_rfl) (by kernel_rfl) (fun _ _ _ h => h) (Or.inr ⟨by rfl, rfl⟩) (by assumption) ?_
    (try simp only [Act.put, List.setIfInBounds_toArray, List.set_cons_zero, List.set_cons_succ])
    refine takeL 9 (v := undef) rfl (by kernel_rfl) (by kernel_rfl) (by kernel_rfl) (fun _ _ _ h => h) (Or.inr ⟨by rfl, rfl⟩) (by assumption) ?_
    (try simp only [Act.put, List.setIfInBounds_toArray, List.set_cons_zero, List.set_cons_succ])
    refine takeL 10 (v := undef) rfl (by kernel_rfl) (by kernel_rfl) (by kernel_rfl) (fun _ _ _ h => h) (Or.inr ⟨by rfl, rfl⟩) (by assumption) ?_
    (try simp only [Act.put, List.setIfInBounds_toArray, List.set_cons_zero, List.set_cons_succ])
    refine takeL 11 (v := ?_) rfl (by kernel_rfl) (by kernel_rfl) (by kernel_rfl) (fun _ _ _ h => h) (Or.inl ⟨by rfl, ?_⟩) (by assumption) ?_
    rotate_left
    · (intro w hSw; go_simp; try with_reducible rfl)
    (try simp only [Act.put, List.setIfInBounds_toArray, List.set_cons_zero, List.set_cons_succ])
    refine wpAnyH_done (by kernel_rfl) ?_ _
    refine NoPanic.normal ?_
    have hDd : w3.drew.heap[D]? = some (.cells (hv hd0) 46 (0, 0)) := hL.blk
    have d0 : w3.drew.cell? ⟨D, 0, none⟩ = some (.int .i64 0) := (cell_of_block hDd 0).trans rfl
    have d1 : w3.drew.cell? ⟨D, 1, none⟩ = some (.int .i64 0) := (cell_of_block hDd 1).trans rfl
    have d2 : w3.drew.cell? ⟨D, 2, none⟩ = some (.int .i64 0) := (cell_of_block hDd 2).trans rfl
    have d3 : w3.drew.cell? ⟨D, 3, none⟩ = some (.int .i64 0) := (cell_of_block hDd 3).trans rfl
    have d4 : w3.drew.cell? ⟨D, 4, none⟩ = some (.int .i64 0) := (cell_of_block hDd 4).trans rfl
    go_wp2_with (refine wpList_lay (by rfl) 46 _ _ (by rfl) D (hv hd0) (by rfl) (by rfl) _ _ hDd 5 (by kernel_rfl) (by rfl) (by rfl) (hv_one _) ?_; intro wL hL')
    refine bodyPost_ret (results_ct rfl _ _ D _ _ _ 5 rfl hL'.blk Try.underlying46 rfl (by kernel_rfl) rfl) rfl ?_
    exact ⟨rfl, hB2.trans (hL.bel.trans (((Below.refl D w3).drew).trans hL'.bel))⟩
  | some h =>
    obtain ⟨kind, lba, len, seq, epoch⟩ := h
    have hRR : R = if ((l.length - i : Nat) : Int) < sizeF len then (⟨kind, lba, len, seq, epoch⟩, 0) else (⟨kind, lba, len, seq, epoch⟩, sizeF len) := by rw [← HR.out]; unfold stepF; rw [hR]
    simp only [headR]
    have hw : IntKind.i64.wrap ((l.length : Int) - (i : Int)) = ((l.length - i : Nat) : Int) := (IntWalk.i64_in _ (by omega)).trans (by omega)
    clear hR HR
    go_wp2_with (refine wpList_lay (by rfl) 46 _ _ (by rfl) D (hv ⟨kind, lba, len, seq, epoch⟩) (by rfl) (by rfl) _ _ hD2 5 (by kernel_rfl) (by rfl) (by rfl) (hv_one _) ?_; intro w3 hL)
    have hb3 := (World.cell?_of_block (a := ⟨Bb, 0, none⟩) (hL.rest Bb hne1)).trans hb2'
    have ha3 := (World.cell?_of_block (a := ⟨A, 0, none⟩) (hL.rest A hne2)).trans ha2'
    have hd3 : w3.cell? ⟨D, 2, none⟩ = some (.int .i64 len) := (cell_of_block hL.blk 2).trans rfl
    have gB : ∀ w', Below w3.heap.size w3 w' → w'.cell? ⟨Bb, 0, none⟩ = some (.slice a l.length cap) := fun w' h => (h.cell (p := ⟨Bb, 0, none⟩) (World.block_lt_of_cell? _ _ hb3)).trans hb3
    have gA : ∀ w', Below w3.heap.size w3 w' → w'.cell? ⟨A, 0, none⟩ = some (.int .i64 i) := fun w' h => (h.cell (p := ⟨A, 0, none⟩) (World.block_lt_of_cell? _ _ ha3)).trans ha3
    have g2 : ∀ w', Below w3.heap.size w3 w' → w'.cell? ⟨D, 2, none⟩ = some (.int .i64 len) := fun w' h => (h.cell (p := ⟨D, 2, none⟩) (World.block_lt_of_cell? _ _ hd3)).trans hd3
    clear hb3 ha3 hd3 hb2' ha2'
    by_cases hlt : ((l.length - i : Nat) : Int) < sizeF len
    · rw [if_pos hlt] at hRR
      subst hRR
      have hcmp : decide (((l.length - i : Nat) : Int) < sizeF len) = true := decide_eq_true hlt
      refine wp_region_noPanic ?_
      refine wp_region_held_drew (S := (fun w' => Below w3.heap.size w3 w')) (by kernel_rfl) ?_ (fun hHeld => ?_)
      · exact below_self_drew _
      refine takeL 0 (v := ?_) rfl (by kernel_rfl) (by kernel_rfl) (by kernel_rfl) (fun _ _ _ h => h) (Or.inl ⟨by rfl, ?_⟩) (by assumption) ?_
      rotate_left
      · (intro w hSw; go_simp; try with_reducible rfl)
      (try simp only [Act.put, List.setIfInBounds_toArray, List.set_cons_zero, List.set_cons_succ])
      refine takeL 1 (v := ?_) rfl (by kernel_rfl) (by kernel_rfl) (by kernel_rfl) (fun _ _ _ h => h) (Or.inl ⟨by rfl, ?_⟩) (by assumption) ?_
      rotate_left
      · (intro w hSw; go_simp; try with_reducible rfl)
      (try simp only [Act.put, List.setIfInBounds_toArray, List.set_cons_zero, List.set_cons_succ])
      refine takeL 2 (v := ?_) rfl (by kernel_rfl) (by kernel_rfl) (by kernel_rfl) (fun _ _ _ h => h) (Or.inl ⟨by rfl, ?_⟩) (by assumption) ?_
      rotate_left
      · (intro w hSw; go_simp; try with_reducible rfl)
      (try simp only [Act.put, List.setIfInBounds_toArray, List.set_cons_zero, List.set_cons_succ])
      refine takeL 3 (v := ?_) rfl (by kernel_rfl) (by kernel_rfl) (by kernel_rfl) (fun _ _ _ h => h) (Or.inl ⟨by rfl, ?_⟩) (by assumption) ?_
      rotate_left
      · (intro w hSw; go_simp; try with_reducible rfl)
      (try simp only [Act.put, List.setIfInBounds_toArray, List.set_cons_zero, List.set_cons_succ])
      refine takeL 4 (v := ?_) rfl (by kernel_rfl) (by kernel_rfl) (by kernel_rfl) (fun _ _ _ h => h) (Or.inl ⟨by rfl, ?_⟩) (by assumption) ?_
      rotate_left
      · (intro w hSw; go_simp; try with_reducible rfl)
      (try simp only [Act.put, List.setIfInBounds_toArray, List.set_cons_zero, List.set_cons_succ])
      refine takeL 5 (v := ?_) rfl (by kernel_rfl) (by kernel_rfl) (by kernel_rfl) (fun _ _ _ h => h) (Or.inl ⟨by rfl, ?_⟩) (by assumption) ?_
      rotate_left
      · (intro w hSw; go_simp; try with_reducible rfl)
      (try simp only [Act.put, List.setIfInBounds_toArray, List.set_cons_zero, List.set_cons_succ])
      refine takeL 6 (v := ?_) rfl (by kernel_rfl) (by kernel_rfl) (by kernel_rfl) (fun _ _ _ h => h) (Or.inl ⟨by rfl, ?_⟩) (by assumption) ?_
      rotate_left
      · (intro w hSw; go_simp; try with_reducible rfl)
      (try simp only [Act.put, List.setIfInBounds_toArray, List.set_cons_zero, List.set_cons_succ])
      refine takeL 7 (v := ?_) rfl (by kernel_rfl) (by kernel_rfl) (by kernel_rfl) (fun _ _ _ h => h) (Or.inl ⟨by rfl, ?_⟩) (by assumption) ?_
      rotate_left
      · (intro w hSw; go_simp; try with_reducible rfl)
      (try simp only [Act.put, List.setIfInBounds_toArray, List.set_cons_zero, List.set_cons_succ])
      refine takeL 8 (v := ?_) rfl (by kernel_rfl) (by kernel_rfl) (by kernel_rfl) (fun _ _ _ h => h) (Or.inl ⟨by rfl, ?_⟩) (by assumption) ?_
      rotate_left
      · (intro w hSw; go_simp; try with_reducible rfl)
      (try simp only [Act.put, List.setIfInBounds_toArray, List.set_cons_zero, List.set_cons_succ])
      refine stepL 9 rfl (by kernel_rfl) (fun K hK => ?_)
      (go_simp; go_at_call 23; refine (size_any _ _).mono ?_; rintro e w4 ⟨rfl, rfl⟩)
      refine hK.out _ _ ?_ (fun hHeld => ?_)
      · assumption
      clear hK K
      (try simp only [Act.put, List.setIfInBounds_toArray, List.set_cons_zero, List.set_cons_succ])
      refine takeL 10 (v := ?_) rfl (by kernel_rfl) (by kernel_rfl) (by kernel_rfl) (fun _ _ _ h => h) (Or.inl ⟨by rfl, ?_⟩) (by assumption) ?_
      rotate_left
      · (intro w hSw; go_simp; try with_reducible rfl)
      (try simp only [Act.put, List.setIfInBounds_toArray, List.set_cons_zero, List.set_cons_succ])
      refine takeL 11 (v := ?_) rfl (by kernel_rfl) (by kernel_rfl) (by kernel_rfl) (fun _ _ _ h => h) (Or.inl ⟨by rfl, ?_⟩) (by assumption) ?_
      rotate_left
      · (intro w hSw; go_simp; try with_reducible rfl)
      (try simp only [Act.put, List.setIfInBounds_toArray, List.set_cons_zero, List.set_cons_succ])
      refine wpAnyH_done (by kernel_rfl) ?_ _
      refine NoPanic.normal ?_
      have hDd : w3.drew.heap[D]? = some (.cells (hv ⟨kind, lba, len, seq, epoch⟩) 46 (0, 0)) := hL.blk
      have d0 : w3.drew.cell? ⟨D, 0, none⟩ = some (.int .i64 kind) := (cell_of_block hDd 0).trans rfl
      have d1 : w3.drew.cell? ⟨D, 1, none⟩ = some (.int .i64 lba) := (cell_of_block hDd 1).trans rfl
      have d2 : w3.drew.cell? ⟨D, 2, none⟩ = some (.int .i64 len) := (cell_of_block hDd 2).trans rfl
      have d3 : w3.drew.cell? ⟨D, 3, none⟩ = some (.int .i64 seq) := (cell_of_block hDd 3).trans rfl
      have d4 : w3.drew.cell? ⟨D, 4, none⟩ = some (.int .i64 epoch) := (cell_of_block hDd 4).trans rfl
      clear gB gA g2
      go_wp2_with (refine wpList_lay (by rfl) 46 _ _ (by rfl) D (hv ⟨kind, lba, len, seq, epoch⟩) (by rfl) (by rfl) _ _ hDd 5 (by kernel_rfl) (by rfl) (by rfl) (hv_one _) ?_; intro wL hL')
      refine bodyPost_ret (results_ct rfl _ _ D _ _ _ 5 rfl hL'.blk Try.underlying46 rfl (by kernel_rfl) rfl) rfl ?_
      exact ⟨rfl, hB2.trans (hL.bel.trans (((Below.refl D w3).drew).trans hL'.bel))⟩
    · rw [if_neg hlt] at hRR
      subst hRR
      have hcmp : decide (((l.length - i : Nat) : Int) < sizeF len) = false := decide_eq_false hlt
      refine wp_region_noPanic ?_
      refine wp_region_held_drew (S := (fun w' => Below w3.heap.size w3 w')) (by kernel_rfl) ?_ (fun hHeld => ?_)
      · exact below_self_drew _
      refine takeL 0 (v := ?_) rfl (by kernel_rfl) (by kernel_rfl) (by kernel_rfl) (fun _ _ _ h => h) (Or.inl ⟨by rfl, ?_⟩) (by assumption) ?_
      rotate_left
      · (intro w hSw; go_simp; try with_reducible rfl)
      (try simp only [Act.put, List.setIfInBounds_toArray, List.set_cons_zero, List.set_cons_succ])
      refine takeL 1 (v := ?_) rfl (by kernel_rfl) (by kernel_rfl) (by kernel_rfl) (fun _ _ _ h => h) (Or.inl ⟨by rfl, ?_⟩) (by assumption) ?_
      rotate_left
      · (intro w hSw; go_simp; try with_reducible rfl)
      (try simp only [Act.put, List.setIfInBounds_toArray, List.set_cons_zero, List.set_cons_succ])
      refine takeL 2 (v := ?_) rfl (by kernel_rfl) (by kernel_rfl) (by kernel_rfl) (fun _ _ _ h => h) (Or.inl ⟨by rfl, ?_⟩) (by assumption) ?_
      rotate_left
      · (intro w hSw; go_simp; try with_reducible rfl)
      (try simp only [Act.put, List.setIfInBounds_toArray, List.set_cons_zero, List.set_cons_succ])
      refine takeL 3 (v := ?_) rfl (by kernel_rfl) (by kernel_rfl) (by kernel_rfl) (fun _ _ _ h => h) (Or.inl ⟨by rfl, ?_⟩) (by assumption) ?_
      rotate_left
      · (intro w hSw; go_simp; try with_reducible rfl)
      (try simp only [Act.put, List.setIfInBounds_toArray, List.set_cons_zero, List.set_cons_succ])
      refine takeL 4 (v := ?_) rfl (by kernel_rfl) (by kernel_rfl) (by kernel_rfl) (fun _ _ _ h => h) (Or.inl ⟨by rfl, ?_⟩) (by assumption) ?_
      rotate_left
      · (intro w hSw; go_simp; try with_reducible rfl)
      (try simp only [Act.put, List.setIfInBounds_toArray, List.set_cons_zero, List.set_cons_succ])
      refine takeL 5 (v := ?_) rfl (by kernel_rfl) (by kernel_rfl) (by kernel_rfl) (fun _ _ _ h => h) (Or.inl ⟨by rfl, ?_⟩) (by assumption) ?_
      rotate_left
      · (intro w hSw; go_simp; try with_reducible rfl)
      (try simp only [Act.put, List.setIfInBounds_toArray, List.set_cons_zero, List.set_cons_succ])
      refine takeL 6 (v := ?_) rfl (by kernel_rfl) (by kernel_rfl) (by kernel_rfl) (fun _ _ _ h => h) (Or.inl ⟨by rfl, ?_⟩) (by assumption) ?_
      rotate_left
      · (intro w hSw; go_simp; try with_reducible rfl)
      (try simp only [Act.put, List.setIfInBounds_toArray, List.set_cons_zero, List.set_cons_succ])
      refine takeL 7 (v := ?_) rfl (by kernel_rfl) (by kernel_rfl) (by kernel_rfl) (fun _ _ _ h => h) (Or.inl ⟨by rfl, ?_⟩) (by assumption) ?_
      rotate_left
      · (intro w hSw; go_simp; try with_reducible rfl)
      (try simp only [Act.put, List.setIfInBounds_toArray, List.set_cons_zero, List.set_cons_succ])
      refine takeL 8 (v := ?_) rfl (by kernel_rfl) (by kernel_rfl) (by kernel_rfl) (fun _ _ _ h => h) (Or.inl ⟨by rfl, ?_⟩) (by assumption) ?_
      rotate_left
      · (intro w hSw; go_simp; try with_reducible rfl)
      (try simp only [Act.put, List.setIfInBounds_toArray, List.set_cons_zero, List.set_cons_succ])
      refine stepL 9 rfl (by kernel_rfl) (fun K hK => ?_)
      (go_simp; go_at_call 23; refine (size_any _ _).mono ?_; rintro e w4 ⟨rfl, rfl⟩)
      refine hK.out _ _ ?_ (fun hHeld => ?_)
      · assumption
      clear hK K
      (try simp only [Act.put, List.setIfInBounds_toArray, List.set_cons_zero, List.set_cons_succ])
      refine takeL 10 (v := ?_) rfl (by kernel_rfl) (by kernel_rfl) (by kernel_rfl) (fun _ _ _ h => h) (Or.inl ⟨by rfl, ?_⟩) (by assumption) ?_
      rotate_left
      · (intro w hSw; go_simp; try with_reducible rfl)
      (try simp only [Act.put, List.setIfInBounds_toArray, List.set_cons_zero, List.set_cons_succ])
      refine takeL 11 (v := ?_) rfl (by kernel_rfl) (by kernel_rfl) (by kernel_rfl) (fun _ _ _ h => h) (Or.inl ⟨by rfl, ?_⟩) (by assumption) ?_
      rotate_left
      · (intro w hSw; go_simp; try with_reducible rfl)
      (try simp only [Act.put, List.setIfInBounds_toArray, List.set_cons_zero, List.set_cons_succ])
      refine wpAnyH_done (by kernel_rfl) ?_ _
      refine NoPanic.normal ?_
      have hDd : w3.drew.heap[D]? = some (.cells (hv ⟨kind, lba, len, seq, epoch⟩) 46 (0, 0)) := hL.blk
      have d0 : w3.drew.cell? ⟨D, 0, none⟩ = some (.int .i64 kind) := (cell_of_block hDd 0).trans rfl
      have d1 : w3.drew.cell? ⟨D, 1, none⟩ = some (.int .i64 lba) := (cell_of_block hDd 1).trans rfl
      have d2 : w3.drew.cell? ⟨D, 2, none⟩ = some (.int .i64 len) := (cell_of_block hDd 2).trans rfl
      have d3 : w3.drew.cell? ⟨D, 3, none⟩ = some (.int .i64 seq) := (cell_of_block hDd 3).trans rfl
      have d4 : w3.drew.cell? ⟨D, 4, none⟩ = some (.int .i64 epoch) := (cell_of_block hDd 4).trans rfl
      clear gB gA g2 d0 d1 d2 d3 d4
      have hST : Still D (hv ⟨kind, lba, len, seq, epoch⟩) 46 w3.drew w3.drew := ⟨hDd, Below.refl _ _⟩
      have d0 : ∀ w', Still D (hv ⟨kind, lba, len, seq, epoch⟩) 46 w3.drew w' → w'.cell? ⟨D, 0, none⟩ = some (.int .i64 kind) := fun w' h => (h.cell 0).trans rfl
      have d1 : ∀ w', Still D (hv ⟨kind, lba, len, seq, epoch⟩) 46 w3.drew w' → w'.cell? ⟨D, 1, none⟩ = some (.int .i64 lba) := fun w' h => (h.cell 1).trans rfl
      have d2 : ∀ w', Still D (hv ⟨kind, lba, len, seq, epoch⟩) 46 w3.drew w' → w'.cell? ⟨D, 2, none⟩ = some (.int .i64 len) := fun w' h => (h.cell 2).trans rfl
      have d3 : ∀ w', Still D (hv ⟨kind, lba, len, seq, epoch⟩) 46 w3.drew w' → w'.cell? ⟨D, 3, none⟩ = some (.int .i64 seq) := fun w' h => (h.cell 3).trans rfl
      have d4 : ∀ w', Still D (hv ⟨kind, lba, len, seq, epoch⟩) 46 w3.drew w' → w'.cell? ⟨D, 4, none⟩ = some (.int .i64 epoch) := fun w' h => (h.cell 4).trans rfl
      go_wp2_with fail
      refine wp_region_noPanic ?_
      refine wp_region_held_drew (S := (fun w' => Still D (hv ⟨kind, lba, len, seq, epoch⟩) 46 w3.drew w')) (by kernel_rfl) ?_ (fun hHeld => ?_)
      · exact hST.drew
      refine takeL 0 (v := ?_) rfl (by kernel_rfl) (by kernel_rfl) (by kernel_rfl) (fun _ _ _ h => h) (Or.inl ⟨by rfl, ?_⟩) (by assumption) ?_
      rotate_left
      · (intro w hSw; go_simp; try with_reducible rfl)
      (try simp only [Act.put, List.setIfInBounds_toArray, List.set_cons_zero, List.set_cons_succ])
      refine takeL 1 (v := ?_) rfl (by kernel_rfl) (by kernel_rfl) (by kernel_rfl) (fun _ _ _ h => h) (Or.inl ⟨by rfl, ?_⟩) (by assumption) ?_
      rotate_left
      · (intro w hSw; go_simp; try with_reducible rfl)
      (try simp only [Act.put, List.setIfInBounds_toArray, List.set_cons_zero, List.set_cons_succ])
      refine takeL 2 (v := ?_) rfl (by kernel_rfl) (by kernel_rfl) (by kernel_rfl) (fun _ _ _ h => h) (Or.inl ⟨by rfl, ?_⟩) (by assumption) ?_
      rotate_left
      · (intro w hSw; go_simp; try with_reducible rfl)
      (try simp only [Act.put, List.setIfInBounds_toArray, List.set_cons_zero, List.set_cons_succ])
      refine stepL 3 rfl (by kernel_rfl) (fun K hK => ?_)
      (go_simp; go_at_call 23; refine (size_any _ _).mono ?_; rintro e w4 ⟨rfl, rfl⟩)
      refine hK.out _ _ ?_ (fun hHeld => ?_)
      · assumption
      clear hK K
      (try simp only [Act.put, List.setIfInBounds_toArray, List.set_cons_zero, List.set_cons_succ])
      refine stepL 4 rfl (by kernel_rfl) (fun K hK => ?_)
      (rw [if_pos (by rfl)]; refine wp_store_row 46 _ _ (by rfl) D (hv ⟨kind, lba, len, seq, epoch⟩) (by rfl) (by rfl) 46 _ hST.drew.blk (by kernel_rfl) (by rfl) (hv_one _) ?_)
      refine hK.out _ _ ?_ (fun hHeld => ?_)
      · exact hST.drew.setRow
      clear hK K
      (try simp only [Act.put, List.setIfInBounds_toArray, List.set_cons_zero, List.set_cons_succ])
      refine takeL 5 (v := ?_) rfl (by kernel_rfl) (by kernel_rfl) (by kernel_rfl) (fun _ _ _ h => h) (Or.inl ⟨by rfl, ?_⟩) (by assumption) ?_
      rotate_left
      · (intro w hSw; go_simp; try with_reducible rfl)
      (try simp only [Act.put, List.setIfInBounds_toArray, List.set_cons_zero, List.set_cons_succ])
      refine wpAnyH_done (by kernel_rfl) ?_ _
      refine NoPanic.normal ?_
      have hSW := (hST.drew).setRow (cs := hv ⟨kind, lba, len, seq, epoch⟩)
      go_wp2
      refine bodyPost_ret (results_ct rfl _ _ D _ _ _ 5 rfl hSW.blk Try.underlying46 rfl (by kernel_rfl) rfl) rfl ?_
      exact ⟨rfl, hB2.trans (hL.bel.trans (((Below.refl D w3).drew).trans hSW.bel))⟩
end Go.Proofs.Ytdiokmaomglefaa
