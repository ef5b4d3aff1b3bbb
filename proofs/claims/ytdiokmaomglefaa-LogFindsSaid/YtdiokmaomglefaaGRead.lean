/- The head that bytes begin with: frame.Read. -/
import Derived.Test.YtdiokmaomglefaaGWrite
import Derived.Test.YtdiokmaomglefaaMH
import Derived.Test.YtdiokmaomglefaaGPrefix
namespace Go.Proofs.Ytdiokmaomglefaa
open Go Go.RowKit

theorem write_bad (h : Hd) (hok : hdOk h = false) (w : World) :
    Calls Try.prog 37 #[.agg (hv h)] w fun e w' => e = .returned (.tuple #[.slice none 0 0, .int .i64 110]) ∧ Below w.heap.size w w' := by
  have hck := hcheck_any h
  rw [hok] at hck
  have HCK := Lib.hid hck
  obtain ⟨k, a, n, s, p⟩ := h
  have hb0 : Below w.heap.size w (w.alloc (.cells #[.int .i64 k, .int .i64 a, .int .i64 n, .int .i64 s, .int .i64 p] 46)) := (Below.refl _ w).alloc (Nat.le_refl _) _
  clear hck hok
  simp only [hv]
  go_enter Try.func37, Try.ntmps37
  go_wp2_with fail
  refine (HCK.out _).mono ?_
  rintro e w2 ⟨rfl, hb2⟩
  have hB := hb0.trans (hb2.mono hb0.size)
  clear HCK hb0 hb2
  go_wp2
  go_ret2
  exact ⟨rfl, hB⟩
def headR : Option Hd → Hd × Int
  | none => (hd0, 110)
  | some h => (h, 0)
theorem writeH_some {h : Hd} (hk : hdOk h = true) : writeH h = some (hdW h) := by simp [writeH, hk, hdW]
theorem writeH_none {h : Hd} (hk : hdOk h = false) : writeH h = none := by simp [writeH, hk]
theorem readH_short {l : List UInt8} (h : l.length < 24) : readH l = none := by simp [readH, h]
theorem readH_high {l : List UInt8} (h : 24 ≤ l.length) (hs : 4611686018427387903 < leg ((l.drop 8).take 8)) : readH l = none := by
  unfold readH; rw [if_neg (by omega), if_pos hs]
theorem readH_bad {l : List UInt8} (h : 24 ≤ l.length) (hs : leg ((l.drop 8).take 8) ≤ 4611686018427387903) (hk : hdOk (headOf l) = false) : readH l = none := by
  unfold readH; rw [if_neg (by omega), if_neg (by omega), writeH_none hk]
theorem readH_other {l : List UInt8} (h : 24 ≤ l.length) (hs : leg ((l.drop 8).take 8) ≤ 4611686018427387903) (hk : hdOk (headOf l) = true) (hw : l.take 24 ≠ hdW (headOf l)) : readH l = none := by
  unfold readH; rw [if_neg (by omega), if_neg (by omega), writeH_some hk]; simp only; rw [if_neg hw]
theorem readH_good {l : List UInt8} (h : 24 ≤ l.length) (hs : leg ((l.drop 8).take 8) ≤ 4611686018427387903) (hk : hdOk (headOf l) = true) (hw : l.take 24 = hdW (headOf l)) : readH l = some (headOf l) := by
  unfold readH; rw [if_neg (by omega), if_neg (by omega), writeH_some hk]; simp only; rw [if_pos hw]
theorem hv_one (h : Hd) : (hv h).all (·.oneCell') = true := by simp [hv, Value.oneCell']
theorem hv0 : #[Value.int .i64 0, .int .i64 0, .int .i64 0, .int .i64 0, .int .i64 0] = hv hd0 := rfl
set_option maxRecDepth 100000 in
set_option linter.unusedSimpArgs false in
set_option maxHeartbeats 1600000 in
theorem fread_any (a : Option Addr) (n cap : Nat) (l : List UInt8) (w : World) (h : Bt w (.slice a n cap) l) :
    Calls Try.prog 24 #[.slice a n cap] w fun e w' => e = .returned (.tuple #[.agg (hv (headR (readH l)).1), .int .i64 (headR (readH l)).2]) ∧ Below w.heap.size w w' := by
  obtain ⟨rfl, p1, p2, p3⟩ := h.len
  obtain ⟨R, hR⟩ : ∃ R, headR (readH l) = R := ⟨_, rfl⟩
  rw [hR]
  have HR := Lib.hid hR
  clear hR
  have hb0 : Below w.heap.size w (w.alloc (.cells (hv hd0) 46)) := (Below.refl _ w).alloc (Nat.le_refl _) _
  have hD0 := heap_alloc_new w (.cells (hv hd0) 46)
  by_cases hlen : l.length < 24
  · have hRR : R = (hd0, 110) := by rw [← HR.out, readH_short hlen]; rfl
    subst hRR
    go_enter Try.func24, Try.ntmps24
    go_wp2_with fail
    refine bodyPost_ret (results_ct rfl _ _ w.heap.size _ _ _ 5 rfl hD0 Try.underlying46 rfl (by kernel_rfl) rfl) rfl ?_
    exact ⟨rfl, hb0⟩
  · obtain ⟨b, off, rfl, hb, _⟩ := h.where (by omega)
    have h1 := h.below hb0
    have hpart := h1.part 0 20 cap (by omega) (by omega) p2
    rw [List.drop_zero, Nat.add_zero] at hpart
    go_enter Try.func24, Try.ntmps24
    go_wp2_with fail
    have i20 : (20 : Int) ≤ (cap : Int) := by omega
    have i24 : (20 : Int) ≤ (l.length : Int) := by omega
    have e0 : #[Value.int .i64 0, .int .i64 0, .int .i64 0, .int .i64 0, .int .i64 0] = hv hd0 := rfl
    rw [e0]
    clear e0
    generalize w.alloc (.cells (hv hd0) 46) = w1 at *
    obtain ⟨D, hD⟩ : ∃ D, w.heap.size = D := ⟨_, rfl⟩
    rw [hD] at hD0 ⊢
    refine wp_region_noPanic ?_
    refine wp_region_held_drew (S := (fun w' => Below w1.heap.size w1 w')) (by kernel_rfl) ?_ (fun hHeld => ?_)
    · exact below_self_drew _
    refine takeL 1 (v := ?_) rfl (by kernel_rfl) (by kernel_rfl) (by kernel_rfl) (fun _ _ _ h => h) (Or.inl ⟨by rfl, ?_⟩) (by assumption) ?_
    rotate_left
    · (intro w hSw; go_simp; try with_reducible rfl)
    (try simp only [Act.put, List.setIfInBounds_toArray, List.set_cons_zero, List.set_cons_succ])
    refine takeL 2 (v := ?_) rfl (by kernel_rfl) (by kernel_rfl) (by kernel_rfl) (fun _ _ _ h => h) (Or.inl ⟨by rfl, ?_⟩) (by assumption) ?_
    rotate_left
    · (intro w hSw; go_simp; try with_reducible rfl)
    (try simp only [Act.put, List.setIfInBounds_toArray, List.set_cons_zero, List.set_cons_succ])
    refine stepL 0 rfl (by kernel_rfl) (fun K hK => ?_)
    (go_simp; go_at_call 43; refine (sizes_any _).mono ?_; rintro e wS ⟨⟨g, rfl, hrS⟩, hbS⟩)
    refine hK.out _ _ ?_ (fun hHeld => ?_)
    · first | assumption | exact below_next' ‹_› ‹_› | exact Below.alloc ‹_› (Below.size ‹_›) _
    clear hK K
    (try simp only [Act.put, List.setIfInBounds_toArray, List.set_cons_zero, List.set_cons_succ])
    refine stepL 3 rfl (by kernel_rfl) (fun K hK => ?_)
    (go_simp; go_at_call 42; refine (split_any g cap b off (l.take 20) (by rw [List.length_take]; omega) _ hrS (hpart.below (by assumption))).mono ?_; rintro e wP ⟨⟨vP, rfl, hvP⟩, hbP⟩)
    refine hK.out _ _ ?_ (fun hHeld => ?_)
    · first | assumption | exact below_next' ‹_› ‹_› | exact Below.alloc ‹_› (Below.size ‹_›) _
    clear hK K
    (try simp only [Act.put, List.setIfInBounds_toArray, List.set_cons_zero, List.set_cons_succ])
    refine takeL 4 (v := ?_) rfl (by kernel_rfl) (by kernel_rfl) (by kernel_rfl) (fun _ _ _ h => h) (Or.inl ⟨by rfl, ?_⟩) (by assumption) ?_
    rotate_left
    · (intro w hSw; go_simp; try with_reducible rfl)
    (try simp only [Act.put, List.setIfInBounds_toArray, List.set_cons_zero, List.set_cons_succ])
    refine takeL 5 (v := ?_) rfl (by kernel_rfl) (by kernel_rfl) (by kernel_rfl) (fun _ _ _ h => h) (Or.inl ⟨by rfl, ?_⟩) (by assumption) ?_
    rotate_left
    · (intro w hSw; go_simp; try with_reducible rfl)
    (try simp only [Act.put, List.setIfInBounds_toArray, List.set_cons_zero, List.set_cons_succ])
    refine takeL 6 (v := ?_) rfl (by kernel_rfl) (by kernel_rfl) (by kernel_rfl) (fun _ _ _ h => h) (Or.inl ⟨by rfl, ?_⟩) (by assumption) ?_
    rotate_left
    · (intro w hSw; go_simp; try with_reducible rfl)
    (try simp only [Act.put, List.setIfInBounds_toArray, List.set_cons_zero, List.set_cons_succ])
    refine takeL 7 (v := ?_) rfl (by kernel_rfl) (by kernel_rfl) (by kernel_rfl) (fun _ _ _ h => h) (Or.inl ⟨by rfl, ?_⟩) (by assumption) ?_
    rotate_left
    · (intro w hSw; go_simp; try with_reducible rfl)
    (try simp only [Act.put, List.setIfInBounds_toArray, List.set_cons_zero, List.set_cons_succ])
    refine takeL 8 (v := ?_) rfl (by kernel_rfl) (by kernel_rfl) (by kernel_rfl) (fun _ _ _ h => h) (Or.inl ⟨by rfl, ?_⟩) (by assumption) ?_
    rotate_left
    · (intro w hSw; go_simp; try with_reducible rfl)
    (try simp only [Act.put, List.setIfInBounds_toArray, List.set_cons_zero, List.set_cons_succ])
    refine wpAnyH_done (by kernel_rfl) ?_ _
    refine NoPanic.normal ?_
    have hb1P : Below w1.heap.size w1 wP := by assumption
    have hDP := blk_on hD0 hb1P
    have hBP := hb0.trans (hb1P.mono hb0.size)
    rw [hD] at hBP
    obtain ⟨av, cv, rfl, _⟩ := id hvP
    obtain ⟨bv', ov, rfl, hbv, hrv⟩ := hvP.where (by decide)
    have hnum : ∀ i m, i + m ≤ 20 → ((l.take 20).drop i).take m = (l.drop i).take m := fun i m h => by
      rw [List.drop_take, List.take_take, Nat.min_eq_left (by omega)]
    obtain ⟨k, hk⟩ : ∃ k, leg ((l.drop 1).take 1) = k := ⟨_, rfl⟩
    obtain ⟨n, hn⟩ : ∃ n, leg ((l.drop 2).take 2) = n := ⟨_, rfl⟩
    obtain ⟨a, ha⟩ : ∃ a, leg ((l.drop 4).take 4) = a := ⟨_, rfl⟩
    obtain ⟨s, hs⟩ : ∃ s, leg ((l.drop 8).take 8) = s := ⟨_, rfl⟩
    obtain ⟨p, hp⟩ : ∃ p, leg ((l.drop 16).take 4) = p := ⟨_, rfl⟩
    have hc1 : wP.cell? ⟨bv', ov + 1, none⟩ = some (.int .u64 k) := by
      have := hrv 1 (.int .u64 (leg (((l.take 20).drop 1).take 1))) rfl
      rw [this, ← hk, hnum 1 1 (by decide)]
    have hc2 : wP.cell? ⟨bv', ov + 2, none⟩ = some (.int .u64 n) := by
      have := hrv 2 (.int .u64 (leg (((l.take 20).drop 2).take 2))) rfl
      rw [this, ← hn, hnum 2 2 (by decide)]
    have hc3 : wP.cell? ⟨bv', ov + 3, none⟩ = some (.int .u64 a) := by
      have := hrv 3 (.int .u64 (leg (((l.take 20).drop 4).take 4))) rfl
      rw [this, ← ha, hnum 4 4 (by decide)]
    have hc4 : wP.cell? ⟨bv', ov + 4, none⟩ = some (.int .u64 s) := by
      have := hrv 4 (.int .u64 (leg (((l.take 20).drop 8).take 8))) rfl
      rw [this, ← hs, hnum 8 8 (by decide)]
    have hc5 : wP.cell? ⟨bv', ov + 5, none⟩ = some (.int .u64 p) := by
      have := hrv 5 (.int .u64 (leg (((l.take 20).drop 16).take 4))) rfl
      rw [this, ← hp, hnum 16 4 (by decide)]
    have hk1 : k < 256 := by rw [← hk]; have := leg_lt ((l.drop 1).take 1); rwa [show ((l.drop 1).take 1).length = 1 by simp; omega] at this
    have hn1 : n < 65536 := by rw [← hn]; have := leg_lt ((l.drop 2).take 2); rwa [show ((l.drop 2).take 2).length = 2 by simp; omega] at this
    have ha1 : a < 4294967296 := by rw [← ha]; have := leg_lt ((l.drop 4).take 4); rwa [show ((l.drop 4).take 4).length = 4 by simp; omega] at this
    have hp1 : p < 4294967296 := by rw [← hp]; have := leg_lt ((l.drop 16).take 4); rwa [show ((l.drop 16).take 4).length = 4 by simp; omega] at this
    have hne : bv' ≠ D := by
      rintro rfl
      rw [cell_of_block hDP] at hc1
      have : ∀ j : Nat, (hv hd0)[j]? ≠ some (Value.int .u64 k) := by
        intro j
        rcases j with _ | _ | _ | _ | _ | j <;> simp [hv]
      exact this _ hc1
    have hho : headOf l = ⟨k, a, n, s, p⟩ := by simp only [headOf, hk, hn, ha, hs, hp]
    have hs24 : 24 ≤ l.length := by omega
    have d0 : wP.cell? ⟨D, 0, none⟩ = some (.int .i64 0) := (cell_of_block hDP 0).trans rfl
    have d1 : wP.cell? ⟨D, 1, none⟩ = some (.int .i64 0) := (cell_of_block hDP 1).trans rfl
    have d2 : wP.cell? ⟨D, 2, none⟩ = some (.int .i64 0) := (cell_of_block hDP 2).trans rfl
    have d3 : wP.cell? ⟨D, 3, none⟩ = some (.int .i64 0) := (cell_of_block hDP 3).trans rfl
    have d4 : wP.cell? ⟨D, 4, none⟩ = some (.int .i64 0) := (cell_of_block hDP 4).trans rfl
    clear hpart hrS hbS hbP hb1P h1 hnum hk hn ha hp hvP hrv i20 i24 hb0 hD0
    by_cases hsm : 4611686018427387903 < s
    · have hRR : R = (hd0, 110) := by rw [← HR.out, readH_high hs24 (by rw [hs]; exact hsm)]; rfl
      subst hRR
      clear hs hho
      go_wp2_with (refine wpList_lay (by rfl) 46 _ _ (by rfl) D (hv hd0) (by rfl) (by rfl) _ _ hDP 5 (by kernel_rfl) (by rfl) (by rfl) (hv_one _) ?_; intro wL hL)
      refine bodyPost_ret (results_ct rfl _ _ D _ _ _ 5 rfl hL.blk Try.underlying46 rfl (by kernel_rfl) rfl) rfl ?_
      exact ⟨rfl, hBP.trans hL.bel⟩
    · have hsm2 : s ≤ 4611686018427387903 := by omega
      clear d0 d1 d2 d3 d4
      have hbvP := World.block_lt_of_cell? wP _ hc1
      have g1 : ∀ w', Upto D wP w' → w'.cell? ⟨bv', ov + 1, none⟩ = some (.int .u64 k) := fun w' h => h.cell hne hc1
      have g2 : ∀ w', Upto D wP w' → w'.cell? ⟨bv', ov + 2, none⟩ = some (.int .u64 n) := fun w' h => h.cell hne hc2
      have g3 : ∀ w', Upto D wP w' → w'.cell? ⟨bv', ov + 3, none⟩ = some (.int .u64 a) := fun w' h => h.cell hne hc3
      have g4 : ∀ w', Upto D wP w' → w'.cell? ⟨bv', ov + 4, none⟩ = some (.int .u64 s) := fun w' h => h.cell hne hc4
      have g5 : ∀ w', Upto D wP w' → w'.cell? ⟨bv', ov + 5, none⟩ = some (.int .u64 p) := fun w' h => h.cell hne hc5
      have k1 : IntKind.i64.wrap (k : Int) = k := IntWalk.i64_in _ (by omega)
      have k2 : IntKind.i64.wrap (n : Int) = n := IntWalk.i64_in _ (by omega)
      have k3 : IntKind.i64.wrap (a : Int) = a := IntWalk.i64_in _ (by omega)
      have k4 : IntKind.i64.wrap (s : Int) = s := IntWalk.i64_in _ (by omega)
      have k5 : IntKind.i64.wrap (p : Int) = p := IntWalk.i64_in _ (by omega)
      have hDd : wP.drew.heap[D]? = some (.cells (hv hd0) 46 (0, 0)) := hDP
      go_wp2_with fail
      refine wp_region_noPanic ?_
      refine wp_region_held_drew (S := (fun w' => Upto D wP w')) (by kernel_rfl) ?_ (fun hHeld => ?_)
      · exact (Upto.refl D wP).drew
      refine takeL 0 (v := ?_) rfl (by kernel_rfl) (by kernel_rfl) (by kernel_rfl) (fun _ _ _ h => h) (Or.inl ⟨by rfl, ?_⟩) (by assumption) ?_
      rotate_left
      · (intro w hSw; go_simp; try with_reducible rfl)
      (try simp only [Act.put, List.setIfInBounds_toArray, List.set_cons_zero, List.set_cons_succ])
      refine takeL 1 (v := ?_) rfl (by kernel_rfl) (by kernel_rfl) (by kernel_rfl) (fun _ _ _ h => h) (Or.inl ⟨by rfl, ?_⟩) (by assumption) ?_
      rotate_left
      · (intro w hSw; go_simp; try with_reducible rfl)
      (try simp only [Act.put, List.setIfInBounds_toArray, List.set_cons_zero, List.set_cons_succ])
      refine takeL 2 (v := ?_) rfl (by kernel_rfl) (by kernel_rfl) (by kernel_rfl) (fun _ _ _ h => h) (Or.inl ⟨by rfl, ?_⟩) (by assumption) ?_
      rotate_left
      · (intro w hSw; go_simp; try with_reducible rfl)
      (try simp only [Act.put, List.setIfInBounds_toArray, List.set_cons_zero, List.set_cons_succ])
      refine takeL 3 (v := ?_) rfl (by kernel_rfl) (by kernel_rfl) (by kernel_rfl) (fun _ _ _ h => h) (Or.inl ⟨by rfl, ?_⟩) (by assumption) ?_
      rotate_left
      · (intro w hSw; go_simp; try with_reducible rfl)
      (try simp only [Act.put, List.setIfInBounds_toArray, List.set_cons_zero, List.set_cons_succ])
      refine takeL 4 (v := ?_) rfl (by kernel_rfl) (by kernel_rfl) (by kernel_rfl) (fun _ _ _ h => h) (Or.inl ⟨by rfl, ?_⟩) (by assumption) ?_
      rotate_left
      · (intro w hSw; go_simp; try with_reducible rfl)
      (try simp only [Act.put, List.setIfInBounds_toArray, List.set_cons_zero, List.set_cons_succ])
      refine takeL 5 (v := ?_) rfl (by kernel_rfl) (by kernel_rfl) (by kernel_rfl) (fun _ _ _ h => h) (Or.inl ⟨by rfl, ?_⟩) (by assumption) ?_
      rotate_left
      · (intro w hSw; go_simp; try with_reducible rfl)
      (try simp only [Act.put, List.setIfInBounds_toArray, List.set_cons_zero, List.set_cons_succ])
      refine takeL 6 (v := ?_) rfl (by kernel_rfl) (by kernel_rfl) (by kernel_rfl) (fun _ _ _ h => h) (Or.inl ⟨by rfl, ?_⟩) (by assumption) ?_
      rotate_left
      · (intro w hSw; go_simp; try with_reducible rfl)
      (try simp only [Act.put, List.setIfInBounds_toArray, List.set_cons_zero, List.set_cons_succ])
      refine takeL 7 (v := ?_) rfl (by kernel_rfl) (by kernel_rfl) (by kernel_rfl) (fun _ _ _ h => h) (Or.inl ⟨by rfl, ?_⟩) (by assumption) ?_
      rotate_left
      · (intro w hSw; go_simp; try with_reducible rfl)
      (try simp only [Act.put, List.setIfInBounds_toArray, List.set_cons_zero, List.set_cons_succ])
      refine takeL 8 (v := ?_) rfl (by kernel_rfl) (by kernel_rfl) (by kernel_rfl) (fun _ _ _ h => h) (Or.inl ⟨by rfl, ?_⟩) (by assumption) ?_
      rotate_left
      · (intro w hSw; go_simp; try with_reducible rfl)
      (try simp only [Act.put, List.setIfInBounds_toArray, List.set_cons_zero, List.set_cons_succ])
      refine takeL 9 (v := ?_) rfl (by kernel_rfl) (by kernel_rfl) (by kernel_rfl) (fun _ _ _ h => h) (Or.inl ⟨by rfl, ?_⟩) (by assumption) ?_
      rotate_left
      · (intro w hSw; go_simp; try with_reducible rfl)
      (try simp only [Act.put, List.setIfInBounds_toArray, List.set_cons_zero, List.set_cons_succ])
      refine takeL 10 (v := ?_) rfl (by kernel_rfl) (by kernel_rfl) (by kernel_rfl) (fun _ _ _ h => h) (Or.inl ⟨by rfl, ?_⟩) (by assumption) ?_
      rotate_left
      · (intro w hSw; go_simp; try with_reducible rfl)
      (try simp only [Act.put, List.setIfInBounds_toArray, List.set_cons_zero, List.set_cons_succ])
      refine takeL 11 (v := ?_) rfl (by kernel_rfl) (by kernel_rfl) (by kernel_rfl) (fun _ _ _ h => h) (Or.inl ⟨by rfl, ?_⟩) (by assumption) ?_
      rotate_left
      · (intro w hSw; go_simp; try with_reducible rfl)
      (try simp only [Act.put, List.setIfInBounds_toArray, List.set_cons_zero, List.set_cons_succ])
      refine takeL 12 (v := ?_) rfl (by kernel_rfl) (by kernel_rfl) (by kernel_rfl) (fun _ _ _ h => h) (Or.inl ⟨by rfl, ?_⟩) (by assumption) ?_
      rotate_left
      · (intro w hSw; go_simp; try with_reducible rfl)
      (try simp only [Act.put, List.setIfInBounds_toArray, List.set_cons_zero, List.set_cons_succ])
      refine takeL 13 (v := ?_) rfl (by kernel_rfl) (by kernel_rfl) (by kernel_rfl) (fun _ _ _ h => h) (Or.inl ⟨by rfl, ?_⟩) (by assumption) ?_
      rotate_left
      · (intro w hSw; go_simp; try with_reducible rfl)
      (try simp only [Act.put, List.setIfInBounds_toArray, List.set_cons_zero, List.set_cons_succ])
      refine takeL 14 (v := ?_) rfl (by kernel_rfl) (by kernel_rfl) (by kernel_rfl) (fun _ _ _ h => h) (Or.inl ⟨by rfl, ?_⟩) (by assumption) ?_
      rotate_left
      · (intro w hSw; go_simp; try with_reducible rfl)
      (try simp only [Act.put, List.setIfInBounds_toArray, List.set_cons_zero, List.set_cons_succ])
      refine takeL 15 (v := ?_) rfl (by kernel_rfl) (by kernel_rfl) (by kernel_rfl) (fun _ _ _ h => h) (Or.inl ⟨by rfl, ?_⟩) (by assumption) ?_
      rotate_left
      · (intro w hSw; go_simp; try with_reducible rfl)
      (try simp only [Act.put, List.setIfInBounds_toArray, List.set_cons_zero, List.set_cons_succ])
      refine takeL 16 (v := ?_) rfl (by kernel_rfl) (by kernel_rfl) (by kernel_rfl) (fun _ _ _ h => h) (Or.inl ⟨by rfl, ?_⟩) (by assumption) ?_
      rotate_left
      · (intro w hSw; go_simp; try with_reducible rfl)
      (try simp only [Act.put, List.setIfInBounds_toArray, List.set_cons_zero, List.set_cons_succ])
      refine takeL 17 (v := ?_) rfl (by kernel_rfl) (by kernel_rfl) (by kernel_rfl) (fun _ _ _ h => h) (Or.inl ⟨by rfl, ?_⟩) (by assumption) ?_
      rotate_left
      · (intro w hSw; go_simp; try with_reducible rfl)
      (try simp only [Act.put, List.setIfInBounds_toArray, List.set_cons_zero, List.set_cons_succ])
      refine takeL 18 (v := ?_) rfl (by kernel_rfl) (by kernel_rfl) (by kernel_rfl) (fun _ _ _ h => h) (Or.inl ⟨by rfl, ?_⟩) (by assumption) ?_
      rotate_left
      · (intro w hSw; go_simp; try with_reducible rfl)
      (try simp only [Act.put, List.setIfInBounds_toArray, List.set_cons_zero, List.set_cons_succ])
      refine takeL 19 (v := ?_) rfl (by kernel_rfl) (by kernel_rfl) (by kernel_rfl) (fun _ _ _ h => h) (Or.inl ⟨by rfl, ?_⟩) (by assumption) ?_
      rotate_left
      · (intro w hSw; go_simp; try with_reducible rfl)
      (try simp only [Act.put, List.setIfInBounds_toArray, List.set_cons_zero, List.set_cons_succ])
      refine takeL 20 (v := ?_) rfl (by kernel_rfl) (by kernel_rfl) (by kernel_rfl) (fun _ _ _ h => h) (Or.inl ⟨by rfl, ?_⟩) (by assumption) ?_
      rotate_left
      · (intro w hSw; go_simp; try with_reducible rfl)
      (try simp only [Act.put, List.setIfInBounds_toArray, List.set_cons_zero, List.set_cons_succ])
      refine stepL 21 rfl (by kernel_rfl) (fun K hK => ?_)
      (rw [if_pos (by rfl)]; refine wp_store_row 46 _ _ (by rfl) D (hv ⟨k, a, n, s, p⟩) (by rfl) (by rfl) 46 _ hDd (by kernel_rfl) (by rfl) (by simp [hv, Value.oneCell']) ?_)
      refine hK.out _ _ ?_ (fun hHeld => ?_)
      · exact (Upto.refl D wP).drew.setRow _
      clear hK K
      (try simp only [Act.put, List.setIfInBounds_toArray, List.set_cons_zero, List.set_cons_succ])
      refine wpAnyH_done (by kernel_rfl) ?_ _
      refine NoPanic.normal ?_
      have hQ := (Upto.refl D wP).drew.setRow (hv ⟨k, a, n, s, p⟩)
      have hDQ : (wP.drew.setRow D (hv ⟨k, a, n, s, p⟩)).heap[D]? = some (.cells (hv ⟨k, a, n, s, p⟩) 46 (0, 0)) := setRow_heap _ _ _ _ _ _ hDd
      generalize wP.drew.setRow D (hv ⟨k, a, n, s, p⟩) = wQ at *
      have hBQ : Below D w wQ := hBP.trans hQ.bel
      have hzQ := block_lt hDQ
      have hlQ := h.below (by rw [hD]; exact hBQ)
      have q0 : wQ.cell? ⟨D, 0, none⟩ = some (.int .i64 k) := (cell_of_block hDQ 0).trans rfl
      have q1 : wQ.cell? ⟨D, 1, none⟩ = some (.int .i64 a) := (cell_of_block hDQ 1).trans rfl
      have q2 : wQ.cell? ⟨D, 2, none⟩ = some (.int .i64 n) := (cell_of_block hDQ 2).trans rfl
      have q3 : wQ.cell? ⟨D, 3, none⟩ = some (.int .i64 s) := (cell_of_block hDQ 3).trans rfl
      have q4 : wQ.cell? ⟨D, 4, none⟩ = some (.int .i64 p) := (cell_of_block hDQ 4).trans rfl
      clear g1 g2 g3 g4 g5 hc1 hc2 hc3 hc4 hc5 hDd hDP hQ k1 k2 k3 k4 k5 h
      have HS := Lib.hid hs
      have HO := Lib.hid hho
      clear hs hho
      cases hok : hdOk ⟨k, a, n, s, p⟩
      · have hRR : R = (hd0, 110) := by rw [← HR.out, readH_bad hs24 (by rw [HS.out]; exact hsm2) (by rw [HO.out]; exact hok)]; rfl
        subst hRR
        go_wp2_with fail
        refine (write_bad ⟨k, a, n, s, p⟩ hok wQ).mono ?_
        rintro e wW ⟨rfl, hbW⟩
        have hDW := blk_on hDQ hbW
        have hBW := hBQ.trans (hbW.mono (by omega))
        clear q0 q1 q2 q3 q4 hlQ
        go_wp2_with (refine wpList_lay (by rfl) 46 _ _ (by rfl) D (hv hd0) (by rfl) (by rfl) _ _ hDW 5 (by kernel_rfl) (by rfl) (by rfl) (hv_one _) ?_; intro wL hL)
        refine bodyPost_ret (results_ct rfl _ _ D _ _ _ 5 rfl hL.blk Try.underlying46 rfl (by kernel_rfl) rfl) rfl ?_
        exact ⟨rfl, hBW.trans hL.bel⟩
      · go_wp2_with fail
        refine (write_any ⟨k, a, n, s, p⟩ hok wQ).mono ?_
        rintro e wW ⟨⟨v, rfl, hv⟩, hbW⟩
        have hDW := blk_on hDQ hbW
        have hBW := hBQ.trans (hbW.mono (by omega))
        have hlW := hlQ.below hbW
        have hbt : Bt wW v (hdW ⟨k, a, n, s, p⟩) := own_bt (by rw [hdW_length]; exact hv) (by rw [hdW_length]; decide)
        obtain ⟨aw, cw, rfl, _⟩ := id hbt
        have hwl := hdW_length ⟨k, a, n, s, p⟩
        obtain ⟨W, hWW⟩ : ∃ W, hdW ⟨k, a, n, s, p⟩ = W := ⟨_, rfl⟩
        rw [hWW] at hbt hwl ⊢
        have HW := Lib.hid hWW
        rw [hwl] at hbt ⊢
        clear hWW hv
        cases hw : decide (l.take 24 = W)
        · have hRR : R = (hd0, 110) := by rw [← HR.out, readH_other hs24 (by rw [HS.out]; exact hsm2) (by rw [HO.out]; exact hok) (by rw [HO.out, HW.out]; exact of_decide_eq_false hw)]; rfl
          subst hRR
          go_wp2_with fail
          refine (prefix_any b off l.length cap aw 24 cw l W (by omega) false (by rw [hwl]; exact hw) wW hlW hbt).mono ?_
          rintro e wX ⟨rfl, hbX⟩
          have hDX := blk_on hDW hbX
          have hBX := hBW.trans (hbX.mono (by have := block_lt hDW; omega))
          clear q0 q1 q2 q3 q4 hlQ hlW hbt
          go_wp2_with (refine wpList_lay (by rfl) 46 _ _ (by rfl) D (hv hd0) (by rfl) (by rfl) _ _ hDX 5 (by kernel_rfl) (by rfl) (by rfl) (hv_one _) ?_; intro wL hL)
          refine bodyPost_ret (results_ct rfl _ _ D _ _ _ 5 rfl hL.blk Try.underlying46 rfl (by kernel_rfl) rfl) rfl ?_
          exact ⟨rfl, hBX.trans hL.bel⟩
        · have hRR : R = (⟨k, a, n, s, p⟩, 0) := by rw [← HR.out, readH_good hs24 (by rw [HS.out]; exact hsm2) (by rw [HO.out]; exact hok) (by rw [HO.out, HW.out]; exact of_decide_eq_true hw), HO.out]; rfl
          subst hRR
          go_wp2_with fail
          refine (prefix_any b off l.length cap aw 24 cw l W (by omega) true (by rw [hwl]; exact hw) wW hlW hbt).mono ?_
          rintro e wX ⟨rfl, hbX⟩
          have hDX := blk_on hDW hbX
          have hBX := hBW.trans (hbX.mono (by have := block_lt hDW; omega))
          have r0 : wX.cell? ⟨D, 0, none⟩ = some (.int .i64 k) := (cell_of_block hDX 0).trans rfl
          have r1 : wX.cell? ⟨D, 1, none⟩ = some (.int .i64 a) := (cell_of_block hDX 1).trans rfl
          have r2 : wX.cell? ⟨D, 2, none⟩ = some (.int .i64 n) := (cell_of_block hDX 2).trans rfl
          have r3 : wX.cell? ⟨D, 3, none⟩ = some (.int .i64 s) := (cell_of_block hDX 3).trans rfl
          have r4 : wX.cell? ⟨D, 4, none⟩ = some (.int .i64 p) := (cell_of_block hDX 4).trans rfl
          clear q0 q1 q2 q3 q4 hlQ hlW hbt
          go_wp2_with (refine wpList_lay (by rfl) 46 _ _ (by rfl) D (hv ⟨k, a, n, s, p⟩) (by rfl) (by rfl) _ _ hDX 5 (by kernel_rfl) (by rfl) (by rfl) (hv_one _) ?_; intro wL hL)
          refine bodyPost_ret (results_ct rfl _ _ D _ _ _ 5 rfl hL.blk Try.underlying46 rfl (by kernel_rfl) rfl) rfl ?_
          exact ⟨rfl, hBX.trans hL.bel⟩
end Go.Proofs.Ytdiokmaomglefaa
