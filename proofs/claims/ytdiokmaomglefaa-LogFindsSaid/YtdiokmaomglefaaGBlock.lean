/- A block of the cipher: chacha.Block. -/
import Derived.Test.YtdiokmaomglefaaMN
import Derived.Test.YtdiokmaomglefaaMR
namespace Go.Proofs.Ytdiokmaomglefaa
open Go Go.RowKit

theorem U32s.one {cs : Array Value} {n : Nat} (h : U32s cs n) : cs.all (·.oneCell') = true := by
  rw [Array.all_eq_true]
  intro i hi
  obtain ⟨x, hx⟩ := h.2 i (by rw [← h.1]; exact hi)
  rw [Array.getElem?_eq_getElem hi] at hx
  rw [Option.some.inj hx]
  rfl
theorem Upto.trans {D : Nat} {a b w : World} (h : Upto D a b) (h2 : Upto D b w) : Upto D a w := ⟨h.bel.trans h2.bel, fun k hk hl => (h2.rest k hk (Nat.lt_of_lt_of_le hl h.bel.size)).trans (h.rest k hk hl)⟩
theorem upto_below {D : Nat} {a w : World} (h : Below a.heap.size a w) (hD : D ≤ a.heap.size) : Upto D a w := ⟨h.mono hD, fun k _ hl => h.block k hl⟩
/-- A block of numbers, whatever they are, and nothing else is touched. -/
structure Mixed (G : Nat) (t : TypeId) (a w : World) : Prop where
  blk : ∃ cs, w.heap[G]? = some (.cells cs t (0, 0)) ∧ U32s cs 16
  upto : Upto G a w
def Holds (G : Nat) (cs : Array Value) (t : TypeId) (w : World) : Prop := w.heap[G]? = some (.cells cs t (0, 0))
theorem Holds.cell {G : Nat} {cs : Array Value} {t : TypeId} {w : World} (h : Holds G cs t w) (j : Nat) {v : Value} (hv : cs[j]? = some v) : w.cell? ⟨G, j, none⟩ = some v := (cell_of_block (w := w) h j).trans hv
theorem bv_wrap (z : Int) : ∃ b : UInt8, Value.int .u8 (IntKind.u8.wrap z) = bv b := by
  refine ⟨UInt8.ofNat (IntKind.u8.wrap z).toNat, ?_⟩
  have h0 : IntKind.u8.wrap z = z % 256 := by simp [IntKind.wrap, IntKind.signed, IntKind.bits]
  rw [h0]
  unfold bv
  have h1 : 0 ≤ z % 256 := Int.emod_nonneg _ (by decide)
  have h2 : z % 256 < 256 := Int.emod_lt_of_pos _ (by decide)
  have h3 : (UInt8.ofNat (z % 256).toNat).toNat = (z % 256).toNat := by
    simp [UInt8.toNat_ofNat']
    omega
  rw [h3, Int.toNat_of_nonneg h1]
/-- 64 bytes, whatever they are, and nothing else is touched. -/
structure Bytes64 (G : Nat) (t : TypeId) (a w : World) : Prop where
  blk : ∃ l : List UInt8, l.length = 64 ∧ w.heap[G]? = some (.cells (l.map bv).toArray t (0, 0))
  upto : Upto G a w
theorem Bytes64.set {G : Nat} {t : TypeId} {a w : World} (h : Bytes64 G t a w) (j : Nat) (b : UInt8) : Bytes64 G t a (w.setCell ⟨G, j, none⟩ (bv b)) := by
  obtain ⟨l, hl, hg⟩ := h.blk
  refine ⟨⟨l.set j b, by simpa using hl, ?_⟩, h.upto.setCell _ _⟩
  have := (set_cell (j := j) hg (bv b)).blk
  rw [this]
  simp [List.map_set]
theorem Bytes64.setw {G : Nat} {t : TypeId} {a w : World} (h : Bytes64 G t a w) (j : Nat) (z : Int) : Bytes64 G t a (w.setCell ⟨G, j, none⟩ (.int .u8 (IntKind.u8.wrap z))) := by
  obtain ⟨b, hb⟩ := bv_wrap z
  rw [hb]
  exact h.set j b
theorem index_u32 (cs : Array Value) (k : Nat) (h16 : k < 16) (x : Value) (hx : cs[k]? = some x) (w : World) : (Instr.index 160 (.agg cs) (.int .i64 k)).run Try.prog w = .ok x w := by
  obtain ⟨hk, rfl⟩ := Array.getElem?_eq_some_iff.1 hx
  simp [Instr.index, go_sem, Result.andThen, hk, h16]
theorem wp_world {P : Program} {c : Code} {Q : Exit → Act → World → Prop} {a : Act} {w : World} (h : ∀ w0, w0 = w → Code.wp P c Q a w0) : Code.wp P c Q a w := h w rfl
theorem old_alloc (w : World) (o : Obj) {i : Nat} (h : i < w.heap.size) : (w.alloc o).heap[i]? = w.heap[i]? := heap_alloc_old w o h
theorem Upto.blk {D k : Nat} {a w : World} {o : Obj} (h : Upto D a w) (hk : k ≠ D) (ho : a.heap[k]? = some o) : w.heap[k]? = some o := (h.rest k hk (block_lt ho)).trans ho
theorem four_alloc {w w0 : World} {o1 o2 o3 o4 : Obj} (h : w0 = (((w.alloc o1).alloc o2).alloc o3).alloc o4) :
    w0.heap[w.heap.size]? = some o1 ∧ w0.heap[w.heap.size + 1]? = some o2 ∧ w0.heap[w.heap.size + 1 + 1]? = some o3 ∧ w0.heap[w.heap.size + 1 + 1 + 1]? = some o4 ∧ Below w.heap.size w w0 ∧ w0.heap.size = w.heap.size + 4 := by
  subst h
  refine ⟨?_, ?_, ?_, ?_, ((((Below.refl _ w).alloc (Nat.le_refl _) _).alloc (by simp) _).alloc (by simp <;> omega) _).alloc (by simp <;> omega) _, by simp⟩
  · exact (old_alloc _ _ (by simp <;> omega)).trans ((old_alloc _ _ (by simp <;> omega)).trans ((old_alloc _ _ (by simp)).trans (heap_alloc_new w o1)))
  · have := heap_alloc_new (w.alloc o1) o2
    exact (old_alloc _ _ (by simp <;> omega)).trans ((old_alloc _ _ (by simp)).trans (by simpa using this))
  · have := heap_alloc_new ((w.alloc o1).alloc o2) o3
    exact (old_alloc _ _ (by simp)).trans (by simpa using this)
  · have := heap_alloc_new (((w.alloc o1).alloc o2).alloc o3) o4
    simpa using this
theorem zeros64 : (#[.int .u8 0, .int .u8 0, .int .u8 0, .int .u8 0, .int .u8 0, .int .u8 0, .int .u8 0, .int .u8 0, .int .u8 0, .int .u8 0, .int .u8 0, .int .u8 0, .int .u8 0, .int .u8 0, .int .u8 0, .int .u8 0, .int .u8 0, .int .u8 0, .int .u8 0, .int .u8 0, .int .u8 0, .int .u8 0, .int .u8 0, .int .u8 0, .int .u8 0, .int .u8 0, .int .u8 0, .int .u8 0, .int .u8 0, .int .u8 0, .int .u8 0, .int .u8 0, .int .u8 0, .int .u8 0, .int .u8 0, .int .u8 0, .int .u8 0, .int .u8 0, .int .u8 0, .int .u8 0, .int .u8 0, .int .u8 0, .int .u8 0, .int .u8 0, .int .u8 0, .int .u8 0, .int .u8 0, .int .u8 0, .int .u8 0, .int .u8 0, .int .u8 0, .int .u8 0, .int .u8 0, .int .u8 0, .int .u8 0, .int .u8 0, .int .u8 0, .int .u8 0, .int .u8 0, .int .u8 0, .int .u8 0, .int .u8 0, .int .u8 0, .int .u8 0] : Array Value) = ((List.replicate 64 (0 : UInt8)).map bv).toArray := by rfl
theorem u32s_start (c : Int) : U32s #[.int .u32 1634760805, .int .u32 857760878, .int .u32 2036477234, .int .u32 1797285236, .int .u32 0, .int .u32 0, .int .u32 0, .int .u32 0, .int .u32 0, .int .u32 0, .int .u32 0, .int .u32 0, .int .u32 c, .int .u32 0, .int .u32 0, .int .u32 0] 16 := by
  refine ⟨rfl, fun j hj => ?_⟩
  match j, hj with
  | 0, _ => exact ⟨_, rfl⟩
  | 1, _ => exact ⟨_, rfl⟩
  | 2, _ => exact ⟨_, rfl⟩
  | 3, _ => exact ⟨_, rfl⟩
  | 4, _ => exact ⟨_, rfl⟩
  | 5, _ => exact ⟨_, rfl⟩
  | 6, _ => exact ⟨_, rfl⟩
  | 7, _ => exact ⟨_, rfl⟩
  | 8, _ => exact ⟨_, rfl⟩
  | 9, _ => exact ⟨_, rfl⟩
  | 10, _ => exact ⟨_, rfl⟩
  | 11, _ => exact ⟨_, rfl⟩
  | 12, _ => exact ⟨_, rfl⟩
  | 13, _ => exact ⟨_, rfl⟩
  | 14, _ => exact ⟨_, rfl⟩
  | 15, _ => exact ⟨_, rfl⟩
  | n + 16, h => omega
theorem bt_block {w : World} {g : Nat} {l : List UInt8} {t : TypeId} {fr : Nat × Nat} (h : w.heap[g]? = some (.cells (l.map bv).toArray t fr)) (hl : l.length ≤ 140737488355328) : Bt w (.slice (some ⟨g, 0, none⟩) l.length l.length) l := by
  refine ⟨some ⟨g, 0, none⟩, l.length, rfl, by simp, Nat.le_refl _, by unfold maxLen; omega, hl, fun _ => ⟨g, 0, rfl, block_lt h, fun j hj => ?_⟩⟩
  rw [cell_of_block h (0 + j)]
  simp [hj]
set_option linter.unusedSimpArgs false in
set_option maxRecDepth 100000 in
set_option maxHeartbeats 2000000 in
theorem block_any (Y N : List UInt8) (hK : Y.length = 32) (hN : N.length = 12) (c : Int) (w : World) :
    Calls Try.prog 84 #[.agg (Y.map bv).toArray, .int .u32 c, .agg (N.map bv).toArray] w fun e w' => (∃ l : List UInt8, l.length = 64 ∧ e = .returned (.agg (l.map bv).toArray)) ∧ Below w.heap.size w w' := by
  go_enter Try.func84, Try.ntmps84
  go_wp2_with fail
  refine wp_world (fun w0 e0 => ?_)
  obtain ⟨b1, b2, b3, b4, hb0, hs0⟩ := four_alloc e0
  clear e0
  have u4 := u32s_start c
  have k1 := bt_block b1 (by omega)
  have n1 := bt_block b2 (by omega)
  rw [hK] at k1
  rw [hN] at n1
  have ge1 : w.heap.size ≠ w.heap.size + 1 + 1 + 1 := by omega
  have ge2 : w.heap.size + 1 ≠ w.heap.size + 1 + 1 + 1 := by omega
  have ge3 : w.heap.size + 1 + 1 ≠ w.heap.size + 1 + 1 + 1 := by omega
  refine wp_region_noPanic ?_
  refine wp_region_held_drew (S := (fun _ => True)) (by kernel_rfl) ?_ (fun hHeld => ?_)
  · trivial
  refine takeL 0 (v := ?_) rfl (by kernel_rfl) (by kernel_rfl) (by kernel_rfl) (fun _ _ _ h => h) (Or.inl ⟨by rfl, ?_⟩) (by assumption) ?_
  rotate_left
  · (intro w hSw; go_simp; try with_reducible rfl)
  (try simp only [Act.put, List.setIfInBounds_toArray, List.set_cons_zero, List.set_cons_succ])
  refine takeL 1 (v := ?_) rfl (by kernel_rfl) (by kernel_rfl) (by kernel_rfl) (fun _ _ _ h => h) (Or.inl ⟨by rfl, ?_⟩) (by assumption) ?_
  rotate_left
  · (intro w hSw; go_simp; try with_reducible rfl)
  (try simp only [Act.put, List.setIfInBounds_toArray, List.set_cons_zero, List.set_cons_succ])
  refine stepL 2 rfl (by kernel_rfl) (fun K hK => ?_)
  (go_simp; go_at_call 97; refine (numbers_any (w.heap.size + 1 + 1 + 1) 4 8 12 (by decide) (by decide) _ 160 w.heap.size 0 32 32 Y (by omega) ge1 w0.drew b4 u4 (k1.below (Below.refl _ w0).drew)).mono ?_; rintro e w1 ⟨rfl, ⟨cs1, c4, u5⟩, hu1⟩)
  refine hK.out _ _ ?_ (fun hHeld => ?_)
  · trivial
  clear hK K
  (try simp only [Act.put, List.setIfInBounds_toArray, List.set_cons_zero, List.set_cons_succ])
  refine wpAnyH_done (by kernel_rfl) ?_ _
  refine NoPanic.normal ?_
  have hb1 := hb0.drew.trans (hu1.bel.mono (by omega))
  have c1 := hu1.blk ge1 b1
  have c2 := hu1.blk ge2 b2
  have c3 := hu1.blk ge3 b3
  have hs1 := hu1.bel.size
  clear b1 b2 b3 b4 hb0 hs0 u4 k1 n1 hu1
  have n2 := bt_block c2 (by omega)
  rw [hN] at n2
  go_wp2_with fail
  refine wp_region_noPanic ?_
  refine wp_region_held_drew (S := (fun _ => True)) (by kernel_rfl) ?_ (fun hHeld => ?_)
  · trivial
  refine takeL 0 (v := ?_) rfl (by kernel_rfl) (by kernel_rfl) (by kernel_rfl) (fun _ _ _ h => h) (Or.inl ⟨by rfl, ?_⟩) (by assumption) ?_
  rotate_left
  · (intro w hSw; go_simp; try with_reducible rfl)
  (try simp only [Act.put, List.setIfInBounds_toArray, List.set_cons_zero, List.set_cons_succ])
  refine takeL 1 (v := ?_) rfl (by kernel_rfl) (by kernel_rfl) (by kernel_rfl) (fun _ _ _ h => h) (Or.inl ⟨by rfl, ?_⟩) (by assumption) ?_
  rotate_left
  · (intro w hSw; go_simp; try with_reducible rfl)
  (try simp only [Act.put, List.setIfInBounds_toArray, List.set_cons_zero, List.set_cons_succ])
  refine stepL 2 rfl (by kernel_rfl) (fun K hK => ?_)
  (go_simp; go_at_call 97; refine (numbers_any (w.heap.size + 1 + 1 + 1) 13 3 3 (by decide) (by decide) _ 160 (w.heap.size + 1) 0 12 12 N (by omega) ge2 w1.drew c4 u5 (n2.below (Below.refl _ w1).drew)).mono ?_; rintro e w2 ⟨rfl, ⟨cs2, d4, u6⟩, hu2⟩)
  refine hK.out _ _ ?_ (fun hHeld => ?_)
  · trivial
  clear hK K
  (try simp only [Act.put, List.setIfInBounds_toArray, List.set_cons_zero, List.set_cons_succ])
  refine wpAnyH_done (by kernel_rfl) ?_ _
  refine NoPanic.normal ?_
  have hb2 := hb1.drew.trans (hu2.bel.mono (by omega))
  have d3 := hu2.blk ge3 c3
  have hs2 := hu2.bel.size
  clear n2 c1 c2 c3 c4 hb1 hs1 u5 ge1 ge2 ge3 hu2 hK hN
  obtain ⟨L2, rfl⟩ : ∃ L : List Value, cs2 = L.toArray := ⟨cs2.toList, by simp⟩
  have hL2 : L2.length = 16 := by simpa using u6.1
  have hi2 : (Try.prog.info? 160).map (·.size) = some L2.length := by rw [hL2]; kernel_rfl
  have r2 := range_of_block d4
  have hi16 : (Try.prog.info? 160).map (·.size) = some 16 := by kernel_rfl
  have one2 := u6.one
  go_wp2_with (first
    | refine wpList_load_at (by rfl) 160 (.tmp 7) rfl (w.heap.size + 1 + 1 + 1) 0 (by rfl) L2 _ r2 Try.underlying160 rfl hi2 ?_
    | (refine wpList_lay (by rfl) 160 (.tmp 8) (.tmp 25) rfl w2.heap.size L2.toArray (by rfl) (by rfl) 160 _ (heap_alloc_new _ _) 16 hi16 u6.1 rfl one2 ?_; intro w3 hL3))
  have d5 := ((Below.refl w2.heap.size w2).alloc (Nat.le_refl _) _).trans hL3.bel
  have hz3 : w3.heap.size = w2.heap.size + 1 := by rw [hL3.size]; simp
  have g3 := hL3.blk
  have l3 := block_lt d3
  have l4 := block_lt d4
  have e3 := (d5.block _ l3).trans d3
  have e4 := (d5.block _ l4).trans d4
  have hb3 := hb2.trans (d5.mono (by omega))
  clear hL3 d5 d3 d4 hb2 r2
  obtain ⟨G, hG⟩ : ∃ G, w2.heap.size = G := ⟨_, rfl⟩
  rw [hG] at hz3 g3 l3 l4 ⊢
  clear hG hs2
  have hM : Mixed G 160 w3 w3 := ⟨⟨_, g3, u6⟩, Upto.refl _ _⟩
  go_loopw [9, 10, 11, 12, 13, 26, 28, 31] (fun _ _ _ _ _ i _ _ wr => ∃ j : Nat, j ≤ 10 ∧ i = .int .i64 j ∧ Mixed G 160 w3 wr) (fun _ _ _ _ _ i _ _ _ => 10 - (intOf i).toNat)
  case atStart => exact ⟨0, by omega, rfl, hM⟩
  case round =>
    clear hM g3
    obtain ⟨j, hj, rfl, hM⟩ := hrel
    by_cases hlt : j < 10
    · have hdj : decide ((j : Int) < 10) = true := decide_eq_true (by omega)
      go_wp2_with fail
      try simp only [hdj]
      go_loopw [9, 10, 11, 12, 13, 28, 31] (fun _ _ _ _ _ i _ wr => ∃ q : Int, (q = 0 ∨ q = 1 ∨ q = 2) ∧ i = .int .i64 q ∧ Mixed G 160 w3 wr) (fun _ _ _ _ _ i _ _ => 2 - (intOf i).toNat)
      case atStart => exact ⟨0, by decide, rfl, hM⟩
      case round =>
        clear hM
        obtain ⟨q, hq, rfl, hM⟩ := hrel
        rcases hq with rfl | rfl | rfl
        · go_wp2_with fail
          go_loopw [10, 11, 12, 13, 31] (fun _ _ _ _ i wr => ∃ m : Int, (m = 0 ∨ m = 1 ∨ m = 2 ∨ m = 3 ∨ m = 4) ∧ i = .int .i64 m ∧ Mixed G 160 w3 wr) (fun _ _ _ _ i _ => 4 - (intOf i).toNat)
          case atStart => exact ⟨0, by decide, rfl, hM⟩
          clear hM
          obtain ⟨m, hm, rfl, hM⟩ := hrel
          rcases hm with rfl | rfl | rfl | rfl | rfl
          · obtain ⟨cs, hGr, hUr⟩ := hM.blk
            obtain ⟨x0, h0⟩ := hUr.2 0 (by decide)
            have c0 : ∀ w', Holds G cs 160 w' → w'.cell? ⟨G, 0, none⟩ = some (.int .u32 x0) := fun w' h => h.cell 0 h0
            obtain ⟨x1, h1⟩ := hUr.2 4 (by decide)
            have c1 : ∀ w', Holds G cs 160 w' → w'.cell? ⟨G, 4, none⟩ = some (.int .u32 x1) := fun w' h => h.cell 4 h1
            obtain ⟨x2, h2⟩ := hUr.2 8 (by decide)
            have c2 : ∀ w', Holds G cs 160 w' → w'.cell? ⟨G, 8, none⟩ = some (.int .u32 x2) := fun w' h => h.cell 8 h2
            obtain ⟨x3, h3⟩ := hUr.2 12 (by decide)
            have c3 : ∀ w', Holds G cs 160 w' → w'.cell? ⟨G, 12, none⟩ = some (.int .u32 x3) := fun w' h => h.cell 12 h3
            go_wp2_with fail
            refine wp_region_noPanic ?_
            refine wp_region_till (T := Holds G cs 160) 16 (by kernel_rfl) ?_ (fun hTill => ?_)
            · exact hGr
            refine takeM 0 (v := ?_) rfl (by kernel_rfl) (by kernel_rfl) (by kernel_rfl) (by kernel_rfl) (fun _ _ _ h => h) (Or.inl ⟨by rfl, ?_⟩) (by assumption) (fun hTill => ?_)
            rotate_left
            · (intro w hSw; go_simp; try with_reducible rfl)
            (try simp only [Act.put, List.setIfInBounds_toArray, List.set_cons_zero, List.set_cons_succ])
            refine takeM 1 (v := ?_) rfl (by kernel_rfl) (by kernel_rfl) (by kernel_rfl) (by kernel_rfl) (fun _ _ _ h => h) (Or.inl ⟨by rfl, ?_⟩) (by assumption) (fun hTill => ?_)
            rotate_left
            · (intro w hSw; go_simp; try with_reducible rfl)
            (try simp only [Act.put, List.setIfInBounds_toArray, List.set_cons_zero, List.set_cons_succ])
            refine takeM 2 (v := ?_) rfl (by kernel_rfl) (by kernel_rfl) (by kernel_rfl) (by kernel_rfl) (fun _ _ _ h => h) (Or.inl ⟨by rfl, ?_⟩) (by assumption) (fun hTill => ?_)
            rotate_left
            · (intro w hSw; go_simp; try with_reducible rfl)
            (try simp only [Act.put, List.setIfInBounds_toArray, List.set_cons_zero, List.set_cons_succ])
            refine takeM 3 (v := ?_) rfl (by kernel_rfl) (by kernel_rfl) (by kernel_rfl) (by kernel_rfl) (fun _ _ _ h => h) (Or.inl ⟨by rfl, ?_⟩) (by assumption) (fun hTill => ?_)
            rotate_left
            · (intro w hSw; go_simp; try with_reducible rfl)
            (try simp only [Act.put, List.setIfInBounds_toArray, List.set_cons_zero, List.set_cons_succ])
            refine takeM 4 (v := ?_) rfl (by kernel_rfl) (by kernel_rfl) (by kernel_rfl) (by kernel_rfl) (fun _ _ _ h => h) (Or.inl ⟨by rfl, ?_⟩) (by assumption) (fun hTill => ?_)
            rotate_left
            · (intro w hSw; go_simp; try with_reducible rfl)
            (try simp only [Act.put, List.setIfInBounds_toArray, List.set_cons_zero, List.set_cons_succ])
            refine takeM 5 (v := ?_) rfl (by kernel_rfl) (by kernel_rfl) (by kernel_rfl) (by kernel_rfl) (fun _ _ _ h => h) (Or.inl ⟨by rfl, ?_⟩) (by assumption) (fun hTill => ?_)
            rotate_left
            · (intro w hSw; go_simp; try with_reducible rfl)
            (try simp only [Act.put, List.setIfInBounds_toArray, List.set_cons_zero, List.set_cons_succ])
            refine takeT 6 (v := ?_) rfl (by kernel_rfl) (by kernel_rfl) (by kernel_rfl) (by kernel_rfl) (by kernel_rfl) (by kernel_rfl) (fun _ _ _ h => h) (Or.inl ⟨by rfl, ?_⟩) (by assumption) (fun hTill => ?_)
            rotate_left
            · (intro w hSw; go_simp; try with_reducible rfl)
            (try simp only [Act.put, List.setIfInBounds_toArray, List.set_cons_zero, List.set_cons_succ])
            refine takeM 7 (v := ?_) rfl (by kernel_rfl) (by kernel_rfl) (by kernel_rfl) (by kernel_rfl) (fun _ _ _ h => h) (Or.inl ⟨by rfl, ?_⟩) (by assumption) (fun hTill => ?_)
            rotate_left
            · (intro w hSw; go_simp; try with_reducible rfl)
            (try simp only [Act.put, List.setIfInBounds_toArray, List.set_cons_zero, List.set_cons_succ])
            refine takeM 8 (v := ?_) rfl (by kernel_rfl) (by kernel_rfl) (by kernel_rfl) (by kernel_rfl) (fun _ _ _ h => h) (Or.inl ⟨by rfl, ?_⟩) (by assumption) (fun hTill => ?_)
            rotate_left
            · (intro w hSw; go_simp; try with_reducible rfl)
            (try simp only [Act.put, List.setIfInBounds_toArray, List.set_cons_zero, List.set_cons_succ])
            refine takeT 9 (v := ?_) rfl (by kernel_rfl) (by kernel_rfl) (by kernel_rfl) (by kernel_rfl) (by kernel_rfl) (by kernel_rfl) (fun _ _ _ h => h) (Or.inl ⟨by rfl, ?_⟩) (by assumption) (fun hTill => ?_)
            rotate_left
            · (intro w hSw; go_simp; try with_reducible rfl)
            (try simp only [Act.put, List.setIfInBounds_toArray, List.set_cons_zero, List.set_cons_succ])
            refine takeM 10 (v := ?_) rfl (by kernel_rfl) (by kernel_rfl) (by kernel_rfl) (by kernel_rfl) (fun _ _ _ h => h) (Or.inl ⟨by rfl, ?_⟩) (by assumption) (fun hTill => ?_)
            rotate_left
            · (intro w hSw; go_simp; try with_reducible rfl)
            (try simp only [Act.put, List.setIfInBounds_toArray, List.set_cons_zero, List.set_cons_succ])
            refine takeM 11 (v := ?_) rfl (by kernel_rfl) (by kernel_rfl) (by kernel_rfl) (by kernel_rfl) (fun _ _ _ h => h) (Or.inl ⟨by rfl, ?_⟩) (by assumption) (fun hTill => ?_)
            rotate_left
            · (intro w hSw; go_simp; try with_reducible rfl)
            (try simp only [Act.put, List.setIfInBounds_toArray, List.set_cons_zero, List.set_cons_succ])
            refine takeT 12 (v := ?_) rfl (by kernel_rfl) (by kernel_rfl) (by kernel_rfl) (by kernel_rfl) (by kernel_rfl) (by kernel_rfl) (fun _ _ _ h => h) (Or.inl ⟨by rfl, ?_⟩) (by assumption) (fun hTill => ?_)
            rotate_left
            · (intro w hSw; go_simp; try with_reducible rfl)
            (try simp only [Act.put, List.setIfInBounds_toArray, List.set_cons_zero, List.set_cons_succ])
            refine takeM 13 (v := ?_) rfl (by kernel_rfl) (by kernel_rfl) (by kernel_rfl) (by kernel_rfl) (fun _ _ _ h => h) (Or.inl ⟨by rfl, ?_⟩) (by assumption) (fun hTill => ?_)
            rotate_left
            · (intro w hSw; go_simp; try with_reducible rfl)
            (try simp only [Act.put, List.setIfInBounds_toArray, List.set_cons_zero, List.set_cons_succ])
            refine takeM 14 (v := ?_) rfl (by kernel_rfl) (by kernel_rfl) (by kernel_rfl) (by kernel_rfl) (fun _ _ _ h => h) (Or.inl ⟨by rfl, ?_⟩) (by assumption) (fun hTill => ?_)
            rotate_left
            · (intro w hSw; go_simp; try with_reducible rfl)
            (try simp only [Act.put, List.setIfInBounds_toArray, List.set_cons_zero, List.set_cons_succ])
            refine takeT 15 (v := ?_) rfl (by kernel_rfl) (by kernel_rfl) (by kernel_rfl) (by kernel_rfl) (by kernel_rfl) (by kernel_rfl) (fun _ _ _ h => h) (Or.inl ⟨by rfl, ?_⟩) (by assumption) (fun hTill => ?_)
            rotate_left
            · (intro w hSw; go_simp; try with_reducible rfl)
            (try simp only [Act.put, List.setIfInBounds_toArray, List.set_cons_zero, List.set_cons_succ])
            refine stepM 16 rfl (by kernel_rfl) (fun K hK => ?_)
            (go_simp; go_at_call 98; refine (quarter_any x0 x1 x2 x3 _).mono ?_; rintro e w5 ⟨⟨y0, y1, y2, y3, rfl⟩, hb5⟩; have h5 := blk_on (w := wr.drew) hGr hb5; have z5 := thawed h5; have y5 := (cell_of_block h5 0).trans h0)
            refine hK.out _ _ ?_ (fun hTill => ?_)
            · exact till_over (by kernel_rfl)
            clear hK K
            (try simp only [Act.put, List.setIfInBounds_toArray, List.set_cons_zero, List.set_cons_succ])
            refine takeM 17 (v := ?_) rfl (by kernel_rfl) (by kernel_rfl) (by kernel_rfl) (by kernel_rfl) (fun _ _ _ h => h) (Or.inl ⟨by rfl, ?_⟩) (by assumption) (fun hTill => ?_)
            rotate_left
            · (intro w hSw; go_simp; try with_reducible rfl)
            (try simp only [Act.put, List.setIfInBounds_toArray, List.set_cons_zero, List.set_cons_succ])
            refine takeM 18 (v := ?_) rfl (by kernel_rfl) (by kernel_rfl) (by kernel_rfl) (by kernel_rfl) (fun _ _ _ h => h) (Or.inl ⟨by rfl, ?_⟩) (by assumption) (fun hTill => ?_)
            rotate_left
            · (intro w hSw; go_simp; try with_reducible rfl)
            (try simp only [Act.put, List.setIfInBounds_toArray, List.set_cons_zero, List.set_cons_succ])
            refine takeM 19 (v := ?_) rfl (by kernel_rfl) (by kernel_rfl) (by kernel_rfl) (by kernel_rfl) (fun _ _ _ h => h) (Or.inl ⟨by rfl, ?_⟩) (by assumption) (fun hTill => ?_)
            rotate_left
            · (intro w hSw; go_simp; try with_reducible rfl)
            (try simp only [Act.put, List.setIfInBounds_toArray, List.set_cons_zero, List.set_cons_succ])
            refine takeM 20 (v := ?_) rfl (by kernel_rfl) (by kernel_rfl) (by kernel_rfl) (by kernel_rfl) (fun _ _ _ h => h) (Or.inl ⟨by rfl, ?_⟩) (by assumption) (fun hTill => ?_)
            rotate_left
            · (intro w hSw; go_simp; try with_reducible rfl)
            (try simp only [Act.put, List.setIfInBounds_toArray, List.set_cons_zero, List.set_cons_succ])
            refine takeM 21 (v := ?_) rfl (by kernel_rfl) (by kernel_rfl) (by kernel_rfl) (by kernel_rfl) (fun _ _ _ h => h) (Or.inl ⟨by rfl, ?_⟩) (by assumption) (fun hTill => ?_)
            rotate_left
            · (intro w hSw; go_simp; try with_reducible rfl)
            (try simp only [Act.put, List.setIfInBounds_toArray, List.set_cons_zero, List.set_cons_succ])
            refine takeM 22 (v := ?_) rfl (by kernel_rfl) (by kernel_rfl) (by kernel_rfl) (by kernel_rfl) (fun _ _ _ h => h) (Or.inl ⟨by rfl, ?_⟩) (by assumption) (fun hTill => ?_)
            rotate_left
            · (intro w hSw; go_simp; try with_reducible rfl)
            (try simp only [Act.put, List.setIfInBounds_toArray, List.set_cons_zero, List.set_cons_succ])
            refine stepM 23 rfl (by kernel_rfl) (fun K hK => ?_)
            go_simp
            refine hK.out _ _ ?_ (fun hTill => ?_)
            · exact till_over (by kernel_rfl)
            clear hK K
            (try simp only [Act.put, List.setIfInBounds_toArray, List.set_cons_zero, List.set_cons_succ])
            have s1 := set_cell (j := 0) h5 (.int .u32 y0); have z6 := thawed s1.blk; have y6 := (cell_of_block s1.blk 4).trans ((Array.getElem?_setIfInBounds_ne (by decide)).trans h1)
            refine takeM 24 (v := ?_) rfl (by kernel_rfl) (by kernel_rfl) (by kernel_rfl) (by kernel_rfl) (fun _ _ _ h => h) (Or.inl ⟨by rfl, ?_⟩) (by assumption) (fun hTill => ?_)
            rotate_left
            · (intro w hSw; go_simp; try with_reducible rfl)
            (try simp only [Act.put, List.setIfInBounds_toArray, List.set_cons_zero, List.set_cons_succ])
            refine stepM 25 rfl (by kernel_rfl) (fun K hK => ?_)
            go_simp
            refine hK.out _ _ ?_ (fun hTill => ?_)
            · exact till_over (by kernel_rfl)
            clear hK K
            (try simp only [Act.put, List.setIfInBounds_toArray, List.set_cons_zero, List.set_cons_succ])
            have s2 := set_cell (j := 4) s1.blk (.int .u32 y1); have z7 := thawed s2.blk; have y7 := (cell_of_block s2.blk 8).trans ((Array.getElem?_setIfInBounds_ne (by decide)).trans ((Array.getElem?_setIfInBounds_ne (by decide)).trans h2))
            refine takeM 26 (v := ?_) rfl (by kernel_rfl) (by kernel_rfl) (by kernel_rfl) (by kernel_rfl) (fun _ _ _ h => h) (Or.inl ⟨by rfl, ?_⟩) (by assumption) (fun hTill => ?_)
            rotate_left
            · (intro w hSw; go_simp; try with_reducible rfl)
            (try simp only [Act.put, List.setIfInBounds_toArray, List.set_cons_zero, List.set_cons_succ])
            refine stepM 27 rfl (by kernel_rfl) (fun K hK => ?_)
            go_simp
            refine hK.out _ _ ?_ (fun hTill => ?_)
            · exact till_over (by kernel_rfl)
            clear hK K
            (try simp only [Act.put, List.setIfInBounds_toArray, List.set_cons_zero, List.set_cons_succ])
            have s3 := set_cell (j := 8) s2.blk (.int .u32 y2); have z8 := thawed s3.blk; have y8 := (cell_of_block s3.blk 12).trans ((Array.getElem?_setIfInBounds_ne (by decide)).trans ((Array.getElem?_setIfInBounds_ne (by decide)).trans ((Array.getElem?_setIfInBounds_ne (by decide)).trans h3)))
            refine takeM 28 (v := ?_) rfl (by kernel_rfl) (by kernel_rfl) (by kernel_rfl) (by kernel_rfl) (fun _ _ _ h => h) (Or.inl ⟨by rfl, ?_⟩) (by assumption) (fun hTill => ?_)
            rotate_left
            · (intro w hSw; go_simp; try with_reducible rfl)
            (try simp only [Act.put, List.setIfInBounds_toArray, List.set_cons_zero, List.set_cons_succ])
            refine stepM 29 rfl (by kernel_rfl) (fun K hK => ?_)
            go_simp
            refine hK.out _ _ ?_ (fun hTill => ?_)
            · exact till_over (by kernel_rfl)
            clear hK K
            (try simp only [Act.put, List.setIfInBounds_toArray, List.set_cons_zero, List.set_cons_succ])
            have s4 := set_cell (j := 12) s3.blk (.int .u32 y3)
            refine doneM (by kernel_rfl) ?_ _
            refine NoPanic.normal ?_
            have hU4 := (((hUr.set 0 y0).set 4 y1).set 8 y2).set 12 y3
            have u4 := ((((hM.upto.drew.trans (upto_below hb5 (Nat.le_of_lt (block_lt (w := wr.drew) hGr)))).setCell 0 (.int .u32 y0)).setCell 4 (.int .u32 y1)).setCell 8 (.int .u32 y2)).setCell 12 (.int .u32 y3)
            have hM4 : Mixed G 160 w3 _ := ⟨⟨_, s4.blk, hU4⟩, u4⟩
            clear s1 s2 s3 s4 z5 z6 z7 z8 y5 y6 y7 y8 h0 h1 h2 h3 h5 c0 c1 c2 c3 hTill hGr hUr hU4 u4
            go_wp2
            go_roundw
            case rel =>
              exact ⟨1, by decide, rfl, hM4⟩
            case measure => show 4 - (1 : Int).toNat < 4 - (0 : Int).toNat; decide
          · obtain ⟨cs, hGr, hUr⟩ := hM.blk
            obtain ⟨x0, h0⟩ := hUr.2 1 (by decide)
            have c0 : ∀ w', Holds G cs 160 w' → w'.cell? ⟨G, 1, none⟩ = some (.int .u32 x0) := fun w' h => h.cell 1 h0
            obtain ⟨x1, h1⟩ := hUr.2 5 (by decide)
            have c1 : ∀ w', Holds G cs 160 w' → w'.cell? ⟨G, 5, none⟩ = some (.int .u32 x1) := fun w' h => h.cell 5 h1
            obtain ⟨x2, h2⟩ := hUr.2 9 (by decide)
            have c2 : ∀ w', Holds G cs 160 w' → w'.cell? ⟨G, 9, none⟩ = some (.int .u32 x2) := fun w' h => h.cell 9 h2
            obtain ⟨x3, h3⟩ := hUr.2 13 (by decide)
            have c3 : ∀ w', Holds G cs 160 w' → w'.cell? ⟨G, 13, none⟩ = some (.int .u32 x3) := fun w' h => h.cell 13 h3
            go_wp2_with fail
            refine wp_region_noPanic ?_
            refine wp_region_till (T := Holds G cs 160) 16 (by kernel_rfl) ?_ (fun hTill => ?_)
            · exact hGr
            refine takeM 0 (v := ?_) rfl (by kernel_rfl) (by kernel_rfl) (by kernel_rfl) (by kernel_rfl) (fun _ _ _ h => h) (Or.inl ⟨by rfl, ?_⟩) (by assumption) (fun hTill => ?_)
            rotate_left
            · (intro w hSw; go_simp; try with_reducible rfl)
            (try simp only [Act.put, List.setIfInBounds_toArray, List.set_cons_zero, List.set_cons_succ])
            refine takeM 1 (v := ?_) rfl (by kernel_rfl) (by kernel_rfl) (by kernel_rfl) (by kernel_rfl) (fun _ _ _ h => h) (Or.inl ⟨by rfl, ?_⟩) (by assumption) (fun hTill => ?_)
            rotate_left
            · (intro w hSw; go_simp; try with_reducible rfl)
            (try simp only [Act.put, List.setIfInBounds_toArray, List.set_cons_zero, List.set_cons_succ])
            refine takeM 2 (v := ?_) rfl (by kernel_rfl) (by kernel_rfl) (by kernel_rfl) (by kernel_rfl) (fun _ _ _ h => h) (Or.inl ⟨by rfl, ?_⟩) (by assumption) (fun hTill => ?_)
            rotate_left
            · (intro w hSw; go_simp; try with_reducible rfl)
            (try simp only [Act.put, List.setIfInBounds_toArray, List.set_cons_zero, List.set_cons_succ])
            refine takeM 3 (v := ?_) rfl (by kernel_rfl) (by kernel_rfl) (by kernel_rfl) (by kernel_rfl) (fun _ _ _ h => h) (Or.inl ⟨by rfl, ?_⟩) (by assumption) (fun hTill => ?_)
            rotate_left
            · (intro w hSw; go_simp; try with_reducible rfl)
            (try simp only [Act.put, List.setIfInBounds_toArray, List.set_cons_zero, List.set_cons_succ])
            refine takeM 4 (v := ?_) rfl (by kernel_rfl) (by kernel_rfl) (by kernel_rfl) (by kernel_rfl) (fun _ _ _ h => h) (Or.inl ⟨by rfl, ?_⟩) (by assumption) (fun hTill => ?_)
            rotate_left
            · (intro w hSw; go_simp; try with_reducible rfl)
            (try simp only [Act.put, List.setIfInBounds_toArray, List.set_cons_zero, List.set_cons_succ])
            refine takeM 5 (v := ?_) rfl (by kernel_rfl) (by kernel_rfl) (by kernel_rfl) (by kernel_rfl) (fun _ _ _ h => h) (Or.inl ⟨by rfl, ?_⟩) (by assumption) (fun hTill => ?_)
            rotate_left
            · (intro w hSw; go_simp; try with_reducible rfl)
            (try simp only [Act.put, List.setIfInBounds_toArray, List.set_cons_zero, List.set_cons_succ])
            refine takeT 6 (v := ?_) rfl (by kernel_rfl) (by kernel_rfl) (by kernel_rfl) (by kernel_rfl) (by kernel_rfl) (by kernel_rfl) (fun _ _ _ h => h) (Or.inl ⟨by rfl, ?_⟩) (by assumption) (fun hTill => ?_)
            rotate_left
            · (intro w hSw; go_simp; try with_reducible rfl)
            (try simp only [Act.put, List.setIfInBounds_toArray, List.set_cons_zero, List.set_cons_succ])
            refine takeM 7 (v := ?_) rfl (by kernel_rfl) (by kernel_rfl) (by kernel_rfl) (by kernel_rfl) (fun _ _ _ h => h) (Or.inl ⟨by rfl, ?_⟩) (by assumption) (fun hTill => ?_)
            rotate_left
            · (intro w hSw; go_simp; try with_reducible rfl)
            (try simp only [Act.put, List.setIfInBounds_toArray, List.set_cons_zero, List.set_cons_succ])
            refine takeM 8 (v := ?_) rfl (by kernel_rfl) (by kernel_rfl) (by kernel_rfl) (by kernel_rfl) (fun _ _ _ h => h) (Or.inl ⟨by rfl, ?_⟩) (by assumption) (fun hTill => ?_)
            rotate_left
            · (intro w hSw; go_simp; try with_reducible rfl)
            (try simp only [Act.put, List.setIfInBounds_toArray, List.set_cons_zero, List.set_cons_succ])
            refine takeT 9 (v := ?_) rfl (by kernel_rfl) (by kernel_rfl) (by kernel_rfl) (by kernel_rfl) (by kernel_rfl) (by kernel_rfl) (fun _ _ _ h => h) (Or.inl ⟨by rfl, ?_⟩) (by assumption) (fun hTill => ?_)
            rotate_left
            · (intro w hSw; go_simp; try with_reducible rfl)
            (try simp only [Act.put, List.setIfInBounds_toArray, List.set_cons_zero, List.set_cons_succ])
            refine takeM 10 (v := ?_) rfl (by kernel_rfl) (by kernel_rfl) (by kernel_rfl) (by kernel_rfl) (fun _ _ _ h => h) (Or.inl ⟨by rfl, ?_⟩) (by assumption) (fun hTill => ?_)
            rotate_left
            · (intro w hSw; go_simp; try with_reducible rfl)
            (try simp only [Act.put, List.setIfInBounds_toArray, List.set_cons_zero, List.set_cons_succ])
            refine takeM 11 (v := ?_) rfl (by kernel_rfl) (by kernel_rfl) (by kernel_rfl) (by kernel_rfl) (fun _ _ _ h => h) (Or.inl ⟨by rfl, ?_⟩) (by assumption) (fun hTill => ?_)
            rotate_left
            · (intro w hSw; go_simp; try with_reducible rfl)
            (try simp only [Act.put, List.setIfInBounds_toArray, List.set_cons_zero, List.set_cons_succ])
            refine takeT 12 (v := ?_) rfl (by kernel_rfl) (by kernel_rfl) (by kernel_rfl) (by kernel_rfl) (by kernel_rfl) (by kernel_rfl) (fun _ _ _ h => h) (Or.inl ⟨by rfl, ?_⟩) (by assumption) (fun hTill => ?_)
            rotate_left
            · (intro w hSw; go_simp; try with_reducible rfl)
            (try simp only [Act.put, List.setIfInBounds_toArray, List.set_cons_zero, List.set_cons_succ])
            refine takeM 13 (v := ?_) rfl (by kernel_rfl) (by kernel_rfl) (by kernel_rfl) (by kernel_rfl) (fun _ _ _ h => h) (Or.inl ⟨by rfl, ?_⟩) (by assumption) (fun hTill => ?_)
            rotate_left
            · (intro w hSw; go_simp; try with_reducible rfl)
            (try simp only [Act.put, List.setIfInBounds_toArray, List.set_cons_zero, List.set_cons_succ])
            refine takeM 14 (v := ?_) rfl (by kernel_rfl) (by kernel_rfl) (by kernel_rfl) (by kernel_rfl) (fun _ _ _ h => h) (Or.inl ⟨by rfl, ?_⟩) (by assumption) (fun hTill => ?_)
            rotate_left
            · (intro w hSw; go_simp; try with_reducible rfl)
            (try simp only [Act.put, List.setIfInBounds_toArray, List.set_cons_zero, List.set_cons_succ])
            refine takeT 15 (v := ?_) rfl (by kernel_rfl) (by kernel_rfl) (by kernel_rfl) (by kernel_rfl) (by kernel_rfl) (by kernel_rfl) (fun _ _ _ h => h) (Or.inl ⟨by rfl, ?_⟩) (by assumption) (fun hTill => ?_)
            rotate_left
            · (intro w hSw; go_simp; try with_reducible rfl)
            (try simp only [Act.put, List.setIfInBounds_toArray, List.set_cons_zero, List.set_cons_succ])
            refine stepM 16 rfl (by kernel_rfl) (fun K hK => ?_)
            (go_simp; go_at_call 98; refine (quarter_any x0 x1 x2 x3 _).mono ?_; rintro e w5 ⟨⟨y0, y1, y2, y3, rfl⟩, hb5⟩; have h5 := blk_on (w := wr.drew) hGr hb5; have z5 := thawed h5; have y5 := (cell_of_block h5 1).trans h0)
            refine hK.out _ _ ?_ (fun hTill => ?_)
            · exact till_over (by kernel_rfl)
            clear hK K
            (try simp only [Act.put, List.setIfInBounds_toArray, List.set_cons_zero, List.set_cons_succ])
            refine takeM 17 (v := ?_) rfl (by kernel_rfl) (by kernel_rfl) (by kernel_rfl) (by kernel_rfl) (fun _ _ _ h => h) (Or.inl ⟨by rfl, ?_⟩) (by assumption) (fun hTill => ?_)
            rotate_left
            · (intro w hSw; go_simp; try with_reducible rfl)
            (try simp only [Act.put, List.setIfInBounds_toArray, List.set_cons_zero, List.set_cons_succ])
            refine takeM 18 (v := ?_) rfl (by kernel_rfl) (by kernel_rfl) (by kernel_rfl) (by kernel_rfl) (fun _ _ _ h => h) (Or.inl ⟨by rfl, ?_⟩) (by assumption) (fun hTill => ?_)
            rotate_left
            · (intro w hSw; go_simp; try with_reducible rfl)
            (try simp only [Act.put, List.setIfInBounds_toArray, List.set_cons_zero, List.set_cons_succ])
            refine takeM 19 (v := ?_) rfl (by kernel_rfl) (by kernel_rfl) (by kernel_rfl) (by kernel_rfl) (fun _ _ _ h => h) (Or.inl ⟨by rfl, ?_⟩) (by assumption) (fun hTill => ?_)
            rotate_left
            · (intro w hSw; go_simp; try with_reducible rfl)
            (try simp only [Act.put, List.setIfInBounds_toArray, List.set_cons_zero, List.set_cons_succ])
            refine takeM 20 (v := ?_) rfl (by kernel_rfl) (by kernel_rfl) (by kernel_rfl) (by kernel_rfl) (fun _ _ _ h => h) (Or.inl ⟨by rfl, ?_⟩) (by assumption) (fun hTill => ?_)
            rotate_left
            · (intro w hSw; go_simp; try with_reducible rfl)
            (try simp only [Act.put, List.setIfInBounds_toArray, List.set_cons_zero, List.set_cons_succ])
            refine takeM 21 (v := ?_) rfl (by kernel_rfl) (by kernel_rfl) (by kernel_rfl) (by kernel_rfl) (fun _ _ _ h => h) (Or.inl ⟨by rfl, ?_⟩) (by assumption) (fun hTill => ?_)
            rotate_left
            · (intro w hSw; go_simp; try with_reducible rfl)
            (try simp only [Act.put, List.setIfInBounds_toArray, List.set_cons_zero, List.set_cons_succ])
            refine takeM 22 (v := ?_) rfl (by kernel_rfl) (by kernel_rfl) (by kernel_rfl) (by kernel_rfl) (fun _ _ _ h => h) (Or.inl ⟨by rfl, ?_⟩) (by assumption) (fun hTill => ?_)
            rotate_left
            · (intro w hSw; go_simp; try with_reducible rfl)
            (try simp only [Act.put, List.setIfInBounds_toArray, List.set_cons_zero, List.set_cons_succ])
            refine stepM 23 rfl (by kernel_rfl) (fun K hK => ?_)
            go_simp
            refine hK.out _ _ ?_ (fun hTill => ?_)
            · exact till_over (by kernel_rfl)
            clear hK K
            (try simp only [Act.put, List.setIfInBounds_toArray, List.set_cons_zero, List.set_cons_succ])
            have s1 := set_cell (j := 1) h5 (.int .u32 y0); have z6 := thawed s1.blk; have y6 := (cell_of_block s1.blk 5).trans ((Array.getElem?_setIfInBounds_ne (by decide)).trans h1)
            refine takeM 24 (v := ?_) rfl (by kernel_rfl) (by kernel_rfl) (by kernel_rfl) (by kernel_rfl) (fun _ _ _ h => h) (Or.inl ⟨by rfl, ?_⟩) (by assumption) (fun hTill => ?_)
            rotate_left
            · (intro w hSw; go_simp; try with_reducible rfl)
            (try simp only [Act.put, List.setIfInBounds_toArray, List.set_cons_zero, List.set_cons_succ])
            refine stepM 25 rfl (by kernel_rfl) (fun K hK => ?_)
            go_simp
            refine hK.out _ _ ?_ (fun hTill => ?_)
            · exact till_over (by kernel_rfl)
            clear hK K
            (try simp only [Act.put, List.setIfInBounds_toArray, List.set_cons_zero, List.set_cons_succ])
            have s2 := set_cell (j := 5) s1.blk (.int .u32 y1); have z7 := thawed s2.blk; have y7 := (cell_of_block s2.blk 9).trans ((Array.getElem?_setIfInBounds_ne (by decide)).trans ((Array.getElem?_setIfInBounds_ne (by decide)).trans h2))
            refine takeM 26 (v := ?_) rfl (by kernel_rfl) (by kernel_rfl) (by kernel_rfl) (by kernel_rfl) (fun _ _ _ h => h) (Or.inl ⟨by rfl, ?_⟩) (by assumption) (fun hTill => ?_)
            rotate_left
            · (intro w hSw; go_simp; try with_reducible rfl)
            (try simp only [Act.put, List.setIfInBounds_toArray, List.set_cons_zero, List.set_cons_succ])
            refine stepM 27 rfl (by kernel_rfl) (fun K hK => ?_)
            go_simp
            refine hK.out _ _ ?_ (fun hTill => ?_)
            · exact till_over (by kernel_rfl)
            clear hK K
            (try simp only [Act.put, List.setIfInBounds_toArray, List.set_cons_zero, List.set_cons_succ])
            have s3 := set_cell (j := 9) s2.blk (.int .u32 y2); have z8 := thawed s3.blk; have y8 := (cell_of_block s3.blk 13).trans ((Array.getElem?_setIfInBounds_ne (by decide)).trans ((Array.getElem?_setIfInBounds_ne (by decide)).trans ((Array.getElem?_setIfInBounds_ne (by decide)).trans h3)))
            refine takeM 28 (v := ?_) rfl (by kernel_rfl) (by kernel_rfl) (by kernel_rfl) (by kernel_rfl) (fun _ _ _ h => h) (Or.inl ⟨by rfl, ?_⟩) (by assumption) (fun hTill => ?_)
            rotate_left
            · (intro w hSw; go_simp; try with_reducible rfl)
            (try simp only [Act.put, List.setIfInBounds_toArray, List.set_cons_zero, List.set_cons_succ])
            refine stepM 29 rfl (by kernel_rfl) (fun K hK => ?_)
            go_simp
            refine hK.out _ _ ?_ (fun hTill => ?_)
            · exact till_over (by kernel_rfl)
            clear hK K
            (try simp only [Act.put, List.setIfInBounds_toArray, List.set_cons_zero, List.set_cons_succ])
            have s4 := set_cell (j := 13) s3.blk (.int .u32 y3)
            refine doneM (by kernel_rfl) ?_ _
            refine NoPanic.normal ?_
            have hU4 := (((hUr.set 1 y0).set 5 y1).set 9 y2).set 13 y3
            have u4 := ((((hM.upto.drew.trans (upto_below hb5 (Nat.le_of_lt (block_lt (w := wr.drew) hGr)))).setCell 1 (.int .u32 y0)).setCell 5 (.int .u32 y1)).setCell 9 (.int .u32 y2)).setCell 13 (.int .u32 y3)
            have hM4 : Mixed G 160 w3 _ := ⟨⟨_, s4.blk, hU4⟩, u4⟩
            clear s1 s2 s3 s4 z5 z6 z7 z8 y5 y6 y7 y8 h0 h1 h2 h3 h5 c0 c1 c2 c3 hTill hGr hUr hU4 u4
            go_wp2
            go_roundw
            case rel =>
              exact ⟨2, by decide, rfl, hM4⟩
            case measure => show 4 - (2 : Int).toNat < 4 - (1 : Int).toNat; decide
          · obtain ⟨cs, hGr, hUr⟩ := hM.blk
            obtain ⟨x0, h0⟩ := hUr.2 2 (by decide)
            have c0 : ∀ w', Holds G cs 160 w' → w'.cell? ⟨G, 2, none⟩ = some (.int .u32 x0) := fun w' h => h.cell 2 h0
            obtain ⟨x1, h1⟩ := hUr.2 6 (by decide)
            have c1 : ∀ w', Holds G cs 160 w' → w'.cell? ⟨G, 6, none⟩ = some (.int .u32 x1) := fun w' h => h.cell 6 h1
            obtain ⟨x2, h2⟩ := hUr.2 10 (by decide)
            have c2 : ∀ w', Holds G cs 160 w' → w'.cell? ⟨G, 10, none⟩ = some (.int .u32 x2) := fun w' h => h.cell 10 h2
            obtain ⟨x3, h3⟩ := hUr.2 14 (by decide)
            have c3 : ∀ w', Holds G cs 160 w' → w'.cell? ⟨G, 14, none⟩ = some (.int .u32 x3) := fun w' h => h.cell 14 h3
            go_wp2_with fail
            refine wp_region_noPanic ?_
            refine wp_region_till (T := Holds G cs 160) 16 (by kernel_rfl) ?_ (fun hTill => ?_)
            · exact hGr
            refine takeM 0 (v := ?_) rfl (by kernel_rfl) (by kernel_rfl) (by kernel_rfl) (by kernel_rfl) (fun _ _ _ h => h) (Or.inl ⟨by rfl, ?_⟩) (by assumption) (fun hTill => ?_)
            rotate_left
            · (intro w hSw; go_simp; try with_reducible rfl)
            (try simp only [Act.put, List.setIfInBounds_toArray, List.set_cons_zero, List.set_cons_succ])
            refine takeM 1 (v := ?_) rfl (by kernel_rfl) (by kernel_rfl) (by kernel_rfl) (by kernel_rfl) (fun _ _ _ h => h) (Or.inl ⟨by rfl, ?_⟩) (by assumption) (fun hTill => ?_)
            rotate_left
            · (intro w hSw; go_simp; try with_reducible rfl)
            (try simp only [Act.put, List.setIfInBounds_toArray, List.set_cons_zero, List.set_cons_succ])
            refine takeM 2 (v := ?_) rfl (by kernel_rfl) (by kernel_rfl) (by kernel_rfl) (by kernel_rfl) (fun _ _ _ h => h) (Or.inl ⟨by rfl, ?_⟩) (by assumption) (fun hTill => ?_)
            rotate_left
            · (intro w hSw; go_simp; try with_reducible rfl)
            (try simp only [Act.put, List.setIfInBounds_toArray, List.set_cons_zero, List.set_cons_succ])
            refine takeM 3 (v := ?_) rfl (by kernel_rfl) (by kernel_rfl) (by kernel_rfl) (by kernel_rfl) (fun _ _ _ h => h) (Or.inl ⟨by rfl, ?_⟩) (by assumption) (fun hTill => ?_)
            rotate_left
            · (intro w hSw; go_simp; try with_reducible rfl)
            (try simp only [Act.put, List.setIfInBounds_toArray, List.set_cons_zero, List.set_cons_succ])
            refine takeM 4 (v := ?_) rfl (by kernel_rfl) (by kernel_rfl) (by kernel_rfl) (by kernel_rfl) (fun _ _ _ h => h) (Or.inl ⟨by rfl, ?_⟩) (by assumption) (fun hTill => ?_)
            rotate_left
            · (intro w hSw; go_simp; try with_reducible rfl)
            (try simp only [Act.put, List.setIfInBounds_toArray, List.set_cons_zero, List.set_cons_succ])
            refine takeM 5 (v := ?_) rfl (by kernel_rfl) (by kernel_rfl) (by kernel_rfl) (by kernel_rfl) (fun _ _ _ h => h) (Or.inl ⟨by rfl, ?_⟩) (by assumption) (fun hTill => ?_)
            rotate_left
            · (intro w hSw; go_simp; try with_reducible rfl)
            (try simp only [Act.put, List.setIfInBounds_toArray, List.set_cons_zero, List.set_cons_succ])
            refine takeT 6 (v := ?_) rfl (by kernel_rfl) (by kernel_rfl) (by kernel_rfl) (by kernel_rfl) (by kernel_rfl) (by kernel_rfl) (fun _ _ _ h => h) (Or.inl ⟨by rfl, ?_⟩) (by assumption) (fun hTill => ?_)
            rotate_left
            · (intro w hSw; go_simp; try with_reducible rfl)
            (try simp only [Act.put, List.setIfInBounds_toArray, List.set_cons_zero, List.set_cons_succ])
            refine takeM 7 (v := ?_) rfl (by kernel_rfl) (by kernel_rfl) (by kernel_rfl) (by kernel_rfl) (fun _ _ _ h => h) (Or.inl ⟨by rfl, ?_⟩) (by assumption) (fun hTill => ?_)
            rotate_left
            · (intro w hSw; go_simp; try with_reducible rfl)
            (try simp only [Act.put, List.setIfInBounds_toArray, List.set_cons_zero, List.set_cons_succ])
            refine takeM 8 (v := ?_) rfl (by kernel_rfl) (by kernel_rfl) (by kernel_rfl) (by kernel_rfl) (fun _ _ _ h => h) (Or.inl ⟨by rfl, ?_⟩) (by assumption) (fun hTill => ?_)
            rotate_left
            · (intro w hSw; go_simp; try with_reducible rfl)
            (try simp only [Act.put, List.setIfInBounds_toArray, List.set_cons_zero, List.set_cons_succ])
            refine takeT 9 (v := ?_) rfl (by kernel_rfl) (by kernel_rfl) (by kernel_rfl) (by kernel_rfl) (by kernel_rfl) (by kernel_rfl) (fun _ _ _ h => h) (Or.inl ⟨by rfl, ?_⟩) (by assumption) (fun hTill => ?_)
            rotate_left
            · (intro w hSw; go_simp; try with_reducible rfl)
            (try simp only [Act.put, List.setIfInBounds_toArray, List.set_cons_zero, List.set_cons_succ])
            refine takeM 10 (v := ?_) rfl (by kernel_rfl) (by kernel_rfl) (by kernel_rfl) (by kernel_rfl) (fun _ _ _ h => h) (Or.inl ⟨by rfl, ?_⟩) (by assumption) (fun hTill => ?_)
            rotate_left
            · (intro w hSw; go_simp; try with_reducible rfl)
            (try simp only [Act.put, List.setIfInBounds_toArray, List.set_cons_zero, List.set_cons_succ])
            refine takeM 11 (v := ?_) rfl (by kernel_rfl) (by kernel_rfl) (by kernel_rfl) (by kernel_rfl) (fun _ _ _ h => h) (Or.inl ⟨by rfl, ?_⟩) (by assumption) (fun hTill => ?_)
            rotate_left
            · (intro w hSw; go_simp; try with_reducible rfl)
            (try simp only [Act.put, List.setIfInBounds_toArray, List.set_cons_zero, List.set_cons_succ])
            refine takeT 12 (v := ?_) rfl (by kernel_rfl) (by kernel_rfl) (by kernel_rfl) (by kernel_rfl) (by kernel_rfl) (by kernel_rfl) (fun _ _ _ h => h) (Or.inl ⟨by rfl, ?_⟩) (by assumption) (fun hTill => ?_)
            rotate_left
            · (intro w hSw; go_simp; try with_reducible rfl)
            (try simp only [Act.put, List.setIfInBounds_toArray, List.set_cons_zero, List.set_cons_succ])
            refine takeM 13 (v := ?_) rfl (by kernel_rfl) (by kernel_rfl) (by kernel_rfl) (by kernel_rfl) (fun _ _ _ h => h) (Or.inl ⟨by rfl, ?_⟩) (by assumption) (fun hTill => ?_)
            rotate_left
            · (intro w hSw; go_simp; try with_reducible rfl)
            (try simp only [Act.put, List.setIfInBounds_toArray, List.set_cons_zero, List.set_cons_succ])
            refine takeM 14 (v := ?_) rfl (by kernel_rfl) (by kernel_rfl) (by kernel_rfl) (by kernel_rfl) (fun _ _ _ h => h) (Or.inl ⟨by rfl, ?_⟩) (by assumption) (fun hTill => ?_)
            rotate_left
            · (intro w hSw; go_simp; try with_reducible rfl)
            (try simp only [Act.put, List.setIfInBounds_toArray, List.set_cons_zero, List.set_cons_succ])
            refine takeT 15 (v := ?_) rfl (by kernel_rfl) (by kernel_rfl) (by kernel_rfl) (by kernel_rfl) (by kernel_rfl) (by kernel_rfl) (fun _ _ _ h => h) (Or.inl ⟨by rfl, ?_⟩) (by assumption) (fun hTill => ?_)
            rotate_left
            · (intro w hSw; go_simp; try with_reducible rfl)
            (try simp only [Act.put, List.setIfInBounds_toArray, List.set_cons_zero, List.set_cons_succ])
            refine stepM 16 rfl (by kernel_rfl) (fun K hK => ?_)
            (go_simp; go_at_call 98; refine (quarter_any x0 x1 x2 x3 _).mono ?_; rintro e w5 ⟨⟨y0, y1, y2, y3, rfl⟩, hb5⟩; have h5 := blk_on (w := wr.drew) hGr hb5; have z5 := thawed h5; have y5 := (cell_of_block h5 2).trans h0)
            refine hK.out _ _ ?_ (fun hTill => ?_)
            · exact till_over (by kernel_rfl)
            clear hK K
            (try simp only [Act.put, List.setIfInBounds_toArray, List.set_cons_zero, List.set_cons_succ])
            refine takeM 17 (v := ?_) rfl (by kernel_rfl) (by kernel_rfl) (by kernel_rfl) (by kernel_rfl) (fun _ _ _ h => h) (Or.inl ⟨by rfl, ?_⟩) (by assumption) (fun hTill => ?_)
            rotate_left
            · (intro w hSw; go_simp; try with_reducible rfl)
            (try simp only [Act.put, List.setIfInBounds_toArray, List.set_cons_zero, List.set_cons_succ])
            refine takeM 18 (v := ?_) rfl (by kernel_rfl) (by kernel_rfl) (by kernel_rfl) (by kernel_rfl) (fun _ _ _ h => h) (Or.inl ⟨by rfl, ?_⟩) (by assumption) (fun hTill => ?_)
            rotate_left
            · (intro w hSw; go_simp; try with_reducible rfl)
            (try simp only [Act.put, List.setIfInBounds_toArray, List.set_cons_zero, List.set_cons_succ])
            refine takeM 19 (v := ?_) rfl (by kernel_rfl) (by kernel_rfl) (by kernel_rfl) (by kernel_rfl) (fun _ _ _ h => h) (Or.inl ⟨by rfl, ?_⟩) (by assumption) (fun hTill => ?_)
            rotate_left
            · (intro w hSw; go_simp; try with_reducible rfl)
            (try simp only [Act.put, List.setIfInBounds_toArray, List.set_cons_zero, List.set_cons_succ])
            refine takeM 20 (v := ?_) rfl (by kernel_rfl) (by kernel_rfl) (by kernel_rfl) (by kernel_rfl) (fun _ _ _ h => h) (Or.inl ⟨by rfl, ?_⟩) (by assumption) (fun hTill => ?_)
            rotate_left
            · (intro w hSw; go_simp; try with_reducible rfl)
            (try simp only [Act.put, List.setIfInBounds_toArray, List.set_cons_zero, List.set_cons_succ])
            refine takeM 21 (v := ?_) rfl (by kernel_rfl) (by kernel_rfl) (by kernel_rfl) (by kernel_rfl) (fun _ _ _ h => h) (Or.inl ⟨by rfl, ?_⟩) (by assumption) (fun hTill => ?_)
            rotate_left
            · (intro w hSw; go_simp; try with_reducible rfl)
            (try simp only [Act.put, List.setIfInBounds_toArray, List.set_cons_zero, List.set_cons_succ])
            refine takeM 22 (v := ?_) rfl (by kernel_rfl) (by kernel_rfl) (by kernel_rfl) (by kernel_rfl) (fun _ _ _ h => h) (Or.inl ⟨by rfl, ?_⟩) (by assumption) (fun hTill => ?_)
            rotate_left
            · (intro w hSw; go_simp; try with_reducible rfl)
            (try simp only [Act.put, List.setIfInBounds_toArray, List.set_cons_zero, List.set_cons_succ])
            refine stepM 23 rfl (by kernel_rfl) (fun K hK => ?_)
            go_simp
            refine hK.out _ _ ?_ (fun hTill => ?_)
            · exact till_over (by kernel_rfl)
            clear hK K
            (try simp only [Act.put, List.setIfInBounds_toArray, List.set_cons_zero, List.set_cons_succ])
            have s1 := set_cell (j := 2) h5 (.int .u32 y0); have z6 := thawed s1.blk; have y6 := (cell_of_block s1.blk 6).trans ((Array.getElem?_setIfInBounds_ne (by decide)).trans h1)
            refine takeM 24 (v := ?_) rfl (by kernel_rfl) (by kernel_rfl) (by kernel_rfl) (by kernel_rfl) (fun _ _ _ h => h) (Or.inl ⟨by rfl, ?_⟩) (by assumption) (fun hTill => ?_)
            rotate_left
            · (intro w hSw; go_simp; try with_reducible rfl)
            (try simp only [Act.put, List.setIfInBounds_toArray, List.set_cons_zero, List.set_cons_succ])
            refine stepM 25 rfl (by kernel_rfl) (fun K hK => ?_)
            go_simp
            refine hK.out _ _ ?_ (fun hTill => ?_)
            · exact till_over (by kernel_rfl)
            clear hK K
            (try simp only [Act.put, List.setIfInBounds_toArray, List.set_cons_zero, List.set_cons_succ])
            have s2 := set_cell (j := 6) s1.blk (.int .u32 y1); have z7 := thawed s2.blk; have y7 := (cell_of_block s2.blk 10).trans ((Array.getElem?_setIfInBounds_ne (by decide)).trans ((Array.getElem?_setIfInBounds_ne (by decide)).trans h2))
            refine takeM 26 (v := ?_) rfl (by kernel_rfl) (by kernel_rfl) (by kernel_rfl) (by kernel_rfl) (fun _ _ _ h => h) (Or.inl ⟨by rfl, ?_⟩) (by assumption) (fun hTill => ?_)
            rotate_left
            · (intro w hSw; go_simp; try with_reducible rfl)
            (try simp only [Act.put, List.setIfInBounds_toArray, List.set_cons_zero, List.set_cons_succ])
            refine stepM 27 rfl (by kernel_rfl) (fun K hK => ?_)
            go_simp
            refine hK.out _ _ ?_ (fun hTill => ?_)
            · exact till_over (by kernel_rfl)
            clear hK K
            (try simp only [Act.put, List.setIfInBounds_toArray, List.set_cons_zero, List.set_cons_succ])
            have s3 := set_cell (j := 10) s2.blk (.int .u32 y2); have z8 := thawed s3.blk; have y8 := (cell_of_block s3.blk 14).trans ((Array.getElem?_setIfInBounds_ne (by decide)).trans ((Array.getElem?_setIfInBounds_ne (by decide)).trans ((Array.getElem?_setIfInBounds_ne (by decide)).trans h3)))
            refine takeM 28 (v := ?_) rfl (by kernel_rfl) (by kernel_rfl) (by kernel_rfl) (by kernel_rfl) (fun _ _ _ h => h) (Or.inl ⟨by rfl, ?_⟩) (by assumption) (fun hTill => ?_)
            rotate_left
            · (intro w hSw; go_simp; try with_reducible rfl)
            (try simp only [Act.put, List.setIfInBounds_toArray, List.set_cons_zero, List.set_cons_succ])
            refine stepM 29 rfl (by kernel_rfl) (fun K hK => ?_)
            go_simp
            refine hK.out _ _ ?_ (fun hTill => ?_)
            · exact till_over (by kernel_rfl)
            clear hK K
            (try simp only [Act.put, List.setIfInBounds_toArray, List.set_cons_zero, List.set_cons_succ])
            have s4 := set_cell (j := 14) s3.blk (.int .u32 y3)
            refine doneM (by kernel_rfl) ?_ _
            refine NoPanic.normal ?_
            have hU4 := (((hUr.set 2 y0).set 6 y1).set 10 y2).set 14 y3
            have u4 := ((((hM.upto.drew.trans (upto_below hb5 (Nat.le_of_lt (block_lt (w := wr.drew) hGr)))).setCell 2 (.int .u32 y0)).setCell 6 (.int .u32 y1)).setCell 10 (.int .u32 y2)).setCell 14 (.int .u32 y3)
            have hM4 : Mixed G 160 w3 _ := ⟨⟨_, s4.blk, hU4⟩, u4⟩
            clear s1 s2 s3 s4 z5 z6 z7 z8 y5 y6 y7 y8 h0 h1 h2 h3 h5 c0 c1 c2 c3 hTill hGr hUr hU4 u4
            go_wp2
            go_roundw
            case rel =>
              exact ⟨3, by decide, rfl, hM4⟩
            case measure => show 4 - (3 : Int).toNat < 4 - (2 : Int).toNat; decide
          · obtain ⟨cs, hGr, hUr⟩ := hM.blk
            obtain ⟨x0, h0⟩ := hUr.2 3 (by decide)
            have c0 : ∀ w', Holds G cs 160 w' → w'.cell? ⟨G, 3, none⟩ = some (.int .u32 x0) := fun w' h => h.cell 3 h0
            obtain ⟨x1, h1⟩ := hUr.2 7 (by decide)
            have c1 : ∀ w', Holds G cs 160 w' → w'.cell? ⟨G, 7, none⟩ = some (.int .u32 x1) := fun w' h => h.cell 7 h1
            obtain ⟨x2, h2⟩ := hUr.2 11 (by decide)
            have c2 : ∀ w', Holds G cs 160 w' → w'.cell? ⟨G, 11, none⟩ = some (.int .u32 x2) := fun w' h => h.cell 11 h2
            obtain ⟨x3, h3⟩ := hUr.2 15 (by decide)
            have c3 : ∀ w', Holds G cs 160 w' → w'.cell? ⟨G, 15, none⟩ = some (.int .u32 x3) := fun w' h => h.cell 15 h3
            go_wp2_with fail
            refine wp_region_noPanic ?_
            refine wp_region_till (T := Holds G cs 160) 16 (by kernel_rfl) ?_ (fun hTill => ?_)
            · exact hGr
            refine takeM 0 (v := ?_) rfl (by kernel_rfl) (by kernel_rfl) (by kernel_rfl) (by kernel_rfl) (fun _ _ _ h => h) (Or.inl ⟨by rfl, ?_⟩) (by assumption) (fun hTill => ?_)
            rotate_left
            · (intro w hSw; go_simp; try with_reducible rfl)
            (try simp only [Act.put, List.setIfInBounds_toArray, List.set_cons_zero, List.set_cons_succ])
            refine takeM 1 (v := ?_) rfl (by kernel_rfl) (by kernel_rfl) (by kernel_rfl) (by kernel_rfl) (fun _ _ _ h => h) (Or.inl ⟨by rfl, ?_⟩) (by assumption) (fun hTill => ?_)
            rotate_left
            · (intro w hSw; go_simp; try with_reducible rfl)
            (try simp only [Act.put, List.setIfInBounds_toArray, List.set_cons_zero, List.set_cons_succ])
            refine takeM 2 (v := ?_) rfl (by kernel_rfl) (by kernel_rfl) (by kernel_rfl) (by kernel_rfl) (fun _ _ _ h => h) (Or.inl ⟨by rfl, ?_⟩) (by assumption) (fun hTill => ?_)
            rotate_left
            · (intro w hSw; go_simp; try with_reducible rfl)
            (try simp only [Act.put, List.setIfInBounds_toArray, List.set_cons_zero, List.set_cons_succ])
            refine takeM 3 (v := ?_) rfl (by kernel_rfl) (by kernel_rfl) (by kernel_rfl) (by kernel_rfl) (fun _ _ _ h => h) (Or.inl ⟨by rfl, ?_⟩) (by assumption) (fun hTill => ?_)
            rotate_left
            · (intro w hSw; go_simp; try with_reducible rfl)
            (try simp only [Act.put, List.setIfInBounds_toArray, List.set_cons_zero, List.set_cons_succ])
            refine takeM 4 (v := ?_) rfl (by kernel_rfl) (by kernel_rfl) (by kernel_rfl) (by kernel_rfl) (fun _ _ _ h => h) (Or.inl ⟨by rfl, ?_⟩) (by assumption) (fun hTill => ?_)
            rotate_left
            · (intro w hSw; go_simp; try with_reducible rfl)
            (try simp only [Act.put, List.setIfInBounds_toArray, List.set_cons_zero, List.set_cons_succ])
            refine takeM 5 (v := ?_) rfl (by kernel_rfl) (by kernel_rfl) (by kernel_rfl) (by kernel_rfl) (fun _ _ _ h => h) (Or.inl ⟨by rfl, ?_⟩) (by assumption) (fun hTill => ?_)
            rotate_left
            · (intro w hSw; go_simp; try with_reducible rfl)
            (try simp only [Act.put, List.setIfInBounds_toArray, List.set_cons_zero, List.set_cons_succ])
            refine takeT 6 (v := ?_) rfl (by kernel_rfl) (by kernel_rfl) (by kernel_rfl) (by kernel_rfl) (by kernel_rfl) (by kernel_rfl) (fun _ _ _ h => h) (Or.inl ⟨by rfl, ?_⟩) (by assumption) (fun hTill => ?_)
            rotate_left
            · (intro w hSw; go_simp; try with_reducible rfl)
            (try simp only [Act.put, List.setIfInBounds_toArray, List.set_cons_zero, List.set_cons_succ])
            refine takeM 7 (v := ?_) rfl (by kernel_rfl) (by kernel_rfl) (by kernel_rfl) (by kernel_rfl) (fun _ _ _ h => h) (Or.inl ⟨by rfl, ?_⟩) (by assumption) (fun hTill => ?_)
            rotate_left
            · (intro w hSw; go_simp; try with_reducible rfl)
            (try simp only [Act.put, List.setIfInBounds_toArray, List.set_cons_zero, List.set_cons_succ])
            refine takeM 8 (v := ?_) rfl (by kernel_rfl) (by kernel_rfl) (by kernel_rfl) (by kernel_rfl) (fun _ _ _ h => h) (Or.inl ⟨by rfl, ?_⟩) (by assumption) (fun hTill => ?_)
            rotate_left
            · (intro w hSw; go_simp; try with_reducible rfl)
            (try simp only [Act.put, List.setIfInBounds_toArray, List.set_cons_zero, List.set_cons_succ])
            refine takeT 9 (v := ?_) rfl (by kernel_rfl) (by kernel_rfl) (by kernel_rfl) (by kernel_rfl) (by kernel_rfl) (by kernel_rfl) (fun _ _ _ h => h) (Or.inl ⟨by rfl, ?_⟩) (by assumption) (fun hTill => ?_)
            rotate_left
            · (intro w hSw; go_simp; try with_reducible rfl)
            (try simp only [Act.put, List.setIfInBounds_toArray, List.set_cons_zero, List.set_cons_succ])
            refine takeM 10 (v := ?_) rfl (by kernel_rfl) (by kernel_rfl) (by kernel_rfl) (by kernel_rfl) (fun _ _ _ h => h) (Or.inl ⟨by rfl, ?_⟩) (by assumption) (fun hTill => ?_)
            rotate_left
            · (intro w hSw; go_simp; try with_reducible rfl)
            (try simp only [Act.put, List.setIfInBounds_toArray, List.set_cons_zero, List.set_cons_succ])
            refine takeM 11 (v := ?_) rfl (by kernel_rfl) (by kernel_rfl) (by kernel_rfl) (by kernel_rfl) (fun _ _ _ h => h) (Or.inl ⟨by rfl, ?_⟩) (by assumption) (fun hTill => ?_)
            rotate_left
            · (intro w hSw; go_simp; try with_reducible rfl)
            (try simp only [Act.put, List.setIfInBounds_toArray, List.set_cons_zero, List.set_cons_succ])
            refine takeT 12 (v := ?_) rfl (by kernel_rfl) (by kernel_rfl) (by kernel_rfl) (by kernel_rfl) (by kernel_rfl) (by kernel_rfl) (fun _ _ _ h => h) (Or.inl ⟨by rfl, ?_⟩) (by assumption) (fun hTill => ?_)
            rotate_left
            · (intro w hSw; go_simp; try with_reducible rfl)
            (try simp only [Act.put, List.setIfInBounds_toArray, List.set_cons_zero, List.set_cons_succ])
            refine takeM 13 (v := ?_) rfl (by kernel_rfl) (by kernel_rfl) (by kernel_rfl) (by kernel_rfl) (fun _ _ _ h => h) (Or.inl ⟨by rfl, ?_⟩) (by assumption) (fun hTill => ?_)
            rotate_left
            · (intro w hSw; go_simp; try with_reducible rfl)
            (try simp only [Act.put, List.setIfInBounds_toArray, List.set_cons_zero, List.set_cons_succ])
            refine takeM 14 (v := ?_) rfl (by kernel_rfl) (by kernel_rfl) (by kernel_rfl) (by kernel_rfl) (fun _ _ _ h => h) (Or.inl ⟨by rfl, ?_⟩) (by assumption) (fun hTill => ?_)
            rotate_left
            · (intro w hSw; go_simp; try with_reducible rfl)
            (try simp only [Act.put, List.setIfInBounds_toArray, List.set_cons_zero, List.set_cons_succ])
            refine takeT 15 (v := ?_) rfl (by kernel_rfl) (by kernel_rfl) (by kernel_rfl) (by kernel_rfl) (by kernel_rfl) (by kernel_rfl) (fun _ _ _ h => h) (Or.inl ⟨by rfl, ?_⟩) (by assumption) (fun hTill => ?_)
            rotate_left
            · (intro w hSw; go_simp; try with_reducible rfl)
            (try simp only [Act.put, List.setIfInBounds_toArray, List.set_cons_zero, List.set_cons_succ])
            refine stepM 16 rfl (by kernel_rfl) (fun K hK => ?_)
            (go_simp; go_at_call 98; refine (quarter_any x0 x1 x2 x3 _).mono ?_; rintro e w5 ⟨⟨y0, y1, y2, y3, rfl⟩, hb5⟩; have h5 := blk_on (w := wr.drew) hGr hb5; have z5 := thawed h5; have y5 := (cell_of_block h5 3).trans h0)
            refine hK.out _ _ ?_ (fun hTill => ?_)
            · exact till_over (by kernel_rfl)
            clear hK K
            (try simp only [Act.put, List.setIfInBounds_toArray, List.set_cons_zero, List.set_cons_succ])
            refine takeM 17 (v := ?_) rfl (by kernel_rfl) (by kernel_rfl) (by kernel_rfl) (by kernel_rfl) (fun _ _ _ h => h) (Or.inl ⟨by rfl, ?_⟩) (by assumption) (fun hTill => ?_)
            rotate_left
            · (intro w hSw; go_simp; try with_reducible rfl)
            (try simp only [Act.put, List.setIfInBounds_toArray, List.set_cons_zero, List.set_cons_succ])
            refine takeM 18 (v := ?_) rfl (by kernel_rfl) (by kernel_rfl) (by kernel_rfl) (by kernel_rfl) (fun _ _ _ h => h) (Or.inl ⟨by rfl, ?_⟩) (by assumption) (fun hTill => ?_)
            rotate_left
            · (intro w hSw; go_simp; try with_reducible rfl)
            (try simp only [Act.put, List.setIfInBounds_toArray, List.set_cons_zero, List.set_cons_succ])
            refine takeM 19 (v := ?_) rfl (by kernel_rfl) (by kernel_rfl) (by kernel_rfl) (by kernel_rfl) (fun _ _ _ h => h) (Or.inl ⟨by rfl, ?_⟩) (by assumption) (fun hTill => ?_)
            rotate_left
            · (intro w hSw; go_simp; try with_reducible rfl)
            (try simp only [Act.put, List.setIfInBounds_toArray, List.set_cons_zero, List.set_cons_succ])
            refine takeM 20 (v := ?_) rfl (by kernel_rfl) (by kernel_rfl) (by kernel_rfl) (by kernel_rfl) (fun _ _ _ h => h) (Or.inl ⟨by rfl, ?_⟩) (by assumption) (fun hTill => ?_)
            rotate_left
            · (intro w hSw; go_simp; try with_reducible rfl)
            (try simp only [Act.put, List.setIfInBounds_toArray, List.set_cons_zero, List.set_cons_succ])
            refine takeM 21 (v := ?_) rfl (by kernel_rfl) (by kernel_rfl) (by kernel_rfl) (by kernel_rfl) (fun _ _ _ h => h) (Or.inl ⟨by rfl, ?_⟩) (by assumption) (fun hTill => ?_)
            rotate_left
            · (intro w hSw; go_simp; try with_reducible rfl)
            (try simp only [Act.put, List.setIfInBounds_toArray, List.set_cons_zero, List.set_cons_succ])
            refine takeM 22 (v := ?_) rfl (by kernel_rfl) (by kernel_rfl) (by kernel_rfl) (by kernel_rfl) (fun _ _ _ h => h) (Or.inl ⟨by rfl, ?_⟩) (by assumption) (fun hTill => ?_)
            rotate_left
            · (intro w hSw; go_simp; try with_reducible rfl)
            (try simp only [Act.put, List.setIfInBounds_toArray, List.set_cons_zero, List.set_cons_succ])
            refine stepM 23 rfl (by kernel_rfl) (fun K hK => ?_)
            go_simp
            refine hK.out _ _ ?_ (fun hTill => ?_)
            · exact till_over (by kernel_rfl)
            clear hK K
            (try simp only [Act.put, List.setIfInBounds_toArray, List.set_cons_zero, List.set_cons_succ])
            have s1 := set_cell (j := 3) h5 (.int .u32 y0); have z6 := thawed s1.blk; have y6 := (cell_of_block s1.blk 7).trans ((Array.getElem?_setIfInBounds_ne (by decide)).trans h1)
            refine takeM 24 (v := ?_) rfl (by kernel_rfl) (by kernel_rfl) (by kernel_rfl) (by kernel_rfl) (fun _ _ _ h => h) (Or.inl ⟨by rfl, ?_⟩) (by assumption) (fun hTill => ?_)
            rotate_left
            · (intro w hSw; go_simp; try with_reducible rfl)
            (try simp only [Act.put, List.setIfInBounds_toArray, List.set_cons_zero, List.set_cons_succ])
            refine stepM 25 rfl (by kernel_rfl) (fun K hK => ?_)
            go_simp
            refine hK.out _ _ ?_ (fun hTill => ?_)
            · exact till_over (by kernel_rfl)
            clear hK K
            (try simp only [Act.put, List.setIfInBounds_toArray, List.set_cons_zero, List.set_cons_succ])
            have s2 := set_cell (j := 7) s1.blk (.int .u32 y1); have z7 := thawed s2.blk; have y7 := (cell_of_block s2.blk 11).trans ((Array.getElem?_setIfInBounds_ne (by decide)).trans ((Array.getElem?_setIfInBounds_ne (by decide)).trans h2))
            refine takeM 26 (v := ?_) rfl (by kernel_rfl) (by kernel_rfl) (by kernel_rfl) (by kernel_rfl) (fun _ _ _ h => h) (Or.inl ⟨by rfl, ?_⟩) (by assumption) (fun hTill => ?_)
            rotate_left
            · (intro w hSw; go_simp; try with_reducible rfl)
            (try simp only [Act.put, List.setIfInBounds_toArray, List.set_cons_zero, List.set_cons_succ])
            refine stepM 27 rfl (by kernel_rfl) (fun K hK => ?_)
            go_simp
            refine hK.out _ _ ?_ (fun hTill => ?_)
            · exact till_over (by kernel_rfl)
            clear hK K
            (try simp only [Act.put, List.setIfInBounds_toArray, List.set_cons_zero, List.set_cons_succ])
            have s3 := set_cell (j := 11) s2.blk (.int .u32 y2); have z8 := thawed s3.blk; have y8 := (cell_of_block s3.blk 15).trans ((Array.getElem?_setIfInBounds_ne (by decide)).trans ((Array.getElem?_setIfInBounds_ne (by decide)).trans ((Array.getElem?_setIfInBounds_ne (by decide)).trans h3)))
            refine takeM 28 (v := ?_) rfl (by kernel_rfl) (by kernel_rfl) (by kernel_rfl) (by kernel_rfl) (fun _ _ _ h => h) (Or.inl ⟨by rfl, ?_⟩) (by assumption) (fun hTill => ?_)
            rotate_left
            · (intro w hSw; go_simp; try with_reducible rfl)
            (try simp only [Act.put, List.setIfInBounds_toArray, List.set_cons_zero, List.set_cons_succ])
            refine stepM 29 rfl (by kernel_rfl) (fun K hK => ?_)
            go_simp
            refine hK.out _ _ ?_ (fun hTill => ?_)
            · exact till_over (by kernel_rfl)
            clear hK K
            (try simp only [Act.put, List.setIfInBounds_toArray, List.set_cons_zero, List.set_cons_succ])
            have s4 := set_cell (j := 15) s3.blk (.int .u32 y3)
            refine doneM (by kernel_rfl) ?_ _
            refine NoPanic.normal ?_
            have hU4 := (((hUr.set 3 y0).set 7 y1).set 11 y2).set 15 y3
            have u4 := ((((hM.upto.drew.trans (upto_below hb5 (Nat.le_of_lt (block_lt (w := wr.drew) hGr)))).setCell 3 (.int .u32 y0)).setCell 7 (.int .u32 y1)).setCell 11 (.int .u32 y2)).setCell 15 (.int .u32 y3)
            have hM4 : Mixed G 160 w3 _ := ⟨⟨_, s4.blk, hU4⟩, u4⟩
            clear s1 s2 s3 s4 z5 z6 z7 z8 y5 y6 y7 y8 h0 h1 h2 h3 h5 c0 c1 c2 c3 hTill hGr hUr hU4 u4
            go_wp2
            go_roundw
            case rel =>
              exact ⟨4, by decide, rfl, hM4⟩
            case measure => show 4 - (4 : Int).toNat < 4 - (3 : Int).toNat; decide
          · go_wp2
            go_roundw
            case rel => exact ⟨1, by decide, rfl, hM⟩
            case measure => decide
        · go_wp2_with fail
          go_loopw [10, 11, 12, 13, 31] (fun _ _ _ _ i wr => ∃ m : Int, (m = 0 ∨ m = 1 ∨ m = 2 ∨ m = 3 ∨ m = 4) ∧ i = .int .i64 m ∧ Mixed G 160 w3 wr) (fun _ _ _ _ i _ => 4 - (intOf i).toNat)
          case atStart => exact ⟨0, by decide, rfl, hM⟩
          clear hM
          obtain ⟨m, hm, rfl, hM⟩ := hrel
          rcases hm with rfl | rfl | rfl | rfl | rfl
          · obtain ⟨cs, hGr, hUr⟩ := hM.blk
            obtain ⟨x0, h0⟩ := hUr.2 0 (by decide)
            have c0 : ∀ w', Holds G cs 160 w' → w'.cell? ⟨G, 0, none⟩ = some (.int .u32 x0) := fun w' h => h.cell 0 h0
            obtain ⟨x1, h1⟩ := hUr.2 5 (by decide)
            have c1 : ∀ w', Holds G cs 160 w' → w'.cell? ⟨G, 5, none⟩ = some (.int .u32 x1) := fun w' h => h.cell 5 h1
            obtain ⟨x2, h2⟩ := hUr.2 10 (by decide)
            have c2 : ∀ w', Holds G cs 160 w' → w'.cell? ⟨G, 10, none⟩ = some (.int .u32 x2) := fun w' h => h.cell 10 h2
            obtain ⟨x3, h3⟩ := hUr.2 15 (by decide)
            have c3 : ∀ w', Holds G cs 160 w' → w'.cell? ⟨G, 15, none⟩ = some (.int .u32 x3) := fun w' h => h.cell 15 h3
            go_wp2_with fail
            refine wp_region_noPanic ?_
            refine wp_region_till (T := Holds G cs 160) 16 (by kernel_rfl) ?_ (fun hTill => ?_)
            · exact hGr
            refine takeM 0 (v := ?_) rfl (by kernel_rfl) (by kernel_rfl) (by kernel_rfl) (by kernel_rfl) (fun _ _ _ h => h) (Or.inl ⟨by rfl, ?_⟩) (by assumption) (fun hTill => ?_)
            rotate_left
            · (intro w hSw; go_simp; try with_reducible rfl)
            (try simp only [Act.put, List.setIfInBounds_toArray, List.set_cons_zero, List.set_cons_succ])
            refine takeM 1 (v := ?_) rfl (by kernel_rfl) (by kernel_rfl) (by kernel_rfl) (by kernel_rfl) (fun _ _ _ h => h) (Or.inl ⟨by rfl, ?_⟩) (by assumption) (fun hTill => ?_)
            rotate_left
            · (intro w hSw; go_simp; try with_reducible rfl)
            (try simp only [Act.put, List.setIfInBounds_toArray, List.set_cons_zero, List.set_cons_succ])
            refine takeM 2 (v := ?_) rfl (by kernel_rfl) (by kernel_rfl) (by kernel_rfl) (by kernel_rfl) (fun _ _ _ h => h) (Or.inl ⟨by rfl, ?_⟩) (by assumption) (fun hTill => ?_)
            rotate_left
            · (intro w hSw; go_simp; try with_reducible rfl)
            (try simp only [Act.put, List.setIfInBounds_toArray, List.set_cons_zero, List.set_cons_succ])
            refine takeM 3 (v := ?_) rfl (by kernel_rfl) (by kernel_rfl) (by kernel_rfl) (by kernel_rfl) (fun _ _ _ h => h) (Or.inl ⟨by rfl, ?_⟩) (by assumption) (fun hTill => ?_)
            rotate_left
            · (intro w hSw; go_simp; try with_reducible rfl)
            (try simp only [Act.put, List.setIfInBounds_toArray, List.set_cons_zero, List.set_cons_succ])
            refine takeM 4 (v := ?_) rfl (by kernel_rfl) (by kernel_rfl) (by kernel_rfl) (by kernel_rfl) (fun _ _ _ h => h) (Or.inl ⟨by rfl, ?_⟩) (by assumption) (fun hTill => ?_)
            rotate_left
            · (intro w hSw; go_simp; try with_reducible rfl)
            (try simp only [Act.put, List.setIfInBounds_toArray, List.set_cons_zero, List.set_cons_succ])
            refine takeM 5 (v := ?_) rfl (by kernel_rfl) (by kernel_rfl) (by kernel_rfl) (by kernel_rfl) (fun _ _ _ h => h) (Or.inl ⟨by rfl, ?_⟩) (by assumption) (fun hTill => ?_)
            rotate_left
            · (intro w hSw; go_simp; try with_reducible rfl)
            (try simp only [Act.put, List.setIfInBounds_toArray, List.set_cons_zero, List.set_cons_succ])
            refine takeT 6 (v := ?_) rfl (by kernel_rfl) (by kernel_rfl) (by kernel_rfl) (by kernel_rfl) (by kernel_rfl) (by kernel_rfl) (fun _ _ _ h => h) (Or.inl ⟨by rfl, ?_⟩) (by assumption) (fun hTill => ?_)
            rotate_left
            · (intro w hSw; go_simp; try with_reducible rfl)
            (try simp only [Act.put, List.setIfInBounds_toArray, List.set_cons_zero, List.set_cons_succ])
            refine takeM 7 (v := ?_) rfl (by kernel_rfl) (by kernel_rfl) (by kernel_rfl) (by kernel_rfl) (fun _ _ _ h => h) (Or.inl ⟨by rfl, ?_⟩) (by assumption) (fun hTill => ?_)
            rotate_left
            · (intro w hSw; go_simp; try with_reducible rfl)
            (try simp only [Act.put, List.setIfInBounds_toArray, List.set_cons_zero, List.set_cons_succ])
            refine takeM 8 (v := ?_) rfl (by kernel_rfl) (by kernel_rfl) (by kernel_rfl) (by kernel_rfl) (fun _ _ _ h => h) (Or.inl ⟨by rfl, ?_⟩) (by assumption) (fun hTill => ?_)
            rotate_left
            · (intro w hSw; go_simp; try with_reducible rfl)
            (try simp only [Act.put, List.setIfInBounds_toArray, List.set_cons_zero, List.set_cons_succ])
            refine takeT 9 (v := ?_) rfl (by kernel_rfl) (by kernel_rfl) (by kernel_rfl) (by kernel_rfl) (by kernel_rfl) (by kernel_rfl) (fun _ _ _ h => h) (Or.inl ⟨by rfl, ?_⟩) (by assumption) (fun hTill => ?_)
            rotate_left
            · (intro w hSw; go_simp; try with_reducible rfl)
            (try simp only [Act.put, List.setIfInBounds_toArray, List.set_cons_zero, List.set_cons_succ])
            refine takeM 10 (v := ?_) rfl (by kernel_rfl) (by kernel_rfl) (by kernel_rfl) (by kernel_rfl) (fun _ _ _ h => h) (Or.inl ⟨by rfl, ?_⟩) (by assumption) (fun hTill => ?_)
            rotate_left
            · (intro w hSw; go_simp; try with_reducible rfl)
            (try simp only [Act.put, List.setIfInBounds_toArray, List.set_cons_zero, List.set_cons_succ])
            refine takeM 11 (v := ?_) rfl (by kernel_rfl) (by kernel_rfl) (by kernel_rfl) (by kernel_rfl) (fun _ _ _ h => h) (Or.inl ⟨by rfl, ?_⟩) (by assumption) (fun hTill => ?_)
            rotate_left
            · (intro w hSw; go_simp; try with_reducible rfl)
            (try simp only [Act.put, List.setIfInBounds_toArray, List.set_cons_zero, List.set_cons_succ])
            refine takeT 12 (v := ?_) rfl (by kernel_rfl) (by kernel_rfl) (by kernel_rfl) (by kernel_rfl) (by kernel_rfl) (by kernel_rfl) (fun _ _ _ h => h) (Or.inl ⟨by rfl, ?_⟩) (by assumption) (fun hTill => ?_)
            rotate_left
            · (intro w hSw; go_simp; try with_reducible rfl)
            (try simp only [Act.put, List.setIfInBounds_toArray, List.set_cons_zero, List.set_cons_succ])
            refine takeM 13 (v := ?_) rfl (by kernel_rfl) (by kernel_rfl) (by kernel_rfl) (by kernel_rfl) (fun _ _ _ h => h) (Or.inl ⟨by rfl, ?_⟩) (by assumption) (fun hTill => ?_)
            rotate_left
            · (intro w hSw; go_simp; try with_reducible rfl)
            (try simp only [Act.put, List.setIfInBounds_toArray, List.set_cons_zero, List.set_cons_succ])
            refine takeM 14 (v := ?_) rfl (by kernel_rfl) (by kernel_rfl) (by kernel_rfl) (by kernel_rfl) (fun _ _ _ h => h) (Or.inl ⟨by rfl, ?_⟩) (by assumption) (fun hTill => ?_)
            rotate_left
            · (intro w hSw; go_simp; try with_reducible rfl)
            (try simp only [Act.put, List.setIfInBounds_toArray, List.set_cons_zero, List.set_cons_succ])
            refine takeT 15 (v := ?_) rfl (by kernel_rfl) (by kernel_rfl) (by kernel_rfl) (by kernel_rfl) (by kernel_rfl) (by kernel_rfl) (fun _ _ _ h => h) (Or.inl ⟨by rfl, ?_⟩) (by assumption) (fun hTill => ?_)
            rotate_left
            · (intro w hSw; go_simp; try with_reducible rfl)
            (try simp only [Act.put, List.setIfInBounds_toArray, List.set_cons_zero, List.set_cons_succ])
            refine stepM 16 rfl (by kernel_rfl) (fun K hK => ?_)
            (go_simp; go_at_call 98; refine (quarter_any x0 x1 x2 x3 _).mono ?_; rintro e w5 ⟨⟨y0, y1, y2, y3, rfl⟩, hb5⟩; have h5 := blk_on (w := wr.drew) hGr hb5; have z5 := thawed h5; have y5 := (cell_of_block h5 0).trans h0)
            refine hK.out _ _ ?_ (fun hTill => ?_)
            · exact till_over (by kernel_rfl)
            clear hK K
            (try simp only [Act.put, List.setIfInBounds_toArray, List.set_cons_zero, List.set_cons_succ])
            refine takeM 17 (v := ?_) rfl (by kernel_rfl) (by kernel_rfl) (by kernel_rfl) (by kernel_rfl) (fun _ _ _ h => h) (Or.inl ⟨by rfl, ?_⟩) (by assumption) (fun hTill => ?_)
            rotate_left
            · (intro w hSw; go_simp; try with_reducible rfl)
            (try simp only [Act.put, List.setIfInBounds_toArray, List.set_cons_zero, List.set_cons_succ])
            refine takeM 18 (v := ?_) rfl (by kernel_rfl) (by kernel_rfl) (by kernel_rfl) (by kernel_rfl) (fun _ _ _ h => h) (Or.inl ⟨by rfl, ?_⟩) (by assumption) (fun hTill => ?_)
            rotate_left
            · (intro w hSw; go_simp; try with_reducible rfl)
            (try simp only [Act.put, List.setIfInBounds_toArray, List.set_cons_zero, List.set_cons_succ])
            refine takeM 19 (v := ?_) rfl (by kernel_rfl) (by kernel_rfl) (by kernel_rfl) (by kernel_rfl) (fun _ _ _ h => h) (Or.inl ⟨by rfl, ?_⟩) (by assumption) (fun hTill => ?_)
            rotate_left
            · (intro w hSw; go_simp; try with_reducible rfl)
            (try simp only [Act.put, List.setIfInBounds_toArray, List.set_cons_zero, List.set_cons_succ])
            refine takeM 20 (v := ?_) rfl (by kernel_rfl) (by kernel_rfl) (by kernel_rfl) (by kernel_rfl) (fun _ _ _ h => h) (Or.inl ⟨by rfl, ?_⟩) (by assumption) (fun hTill => ?_)
            rotate_left
            · (intro w hSw; go_simp; try with_reducible rfl)
            (try simp only [Act.put, List.setIfInBounds_toArray, List.set_cons_zero, List.set_cons_succ])
            refine takeM 21 (v := ?_) rfl (by kernel_rfl) (by kernel_rfl) (by kernel_rfl) (by kernel_rfl) (fun _ _ _ h => h) (Or.inl ⟨by rfl, ?_⟩) (by assumption) (fun hTill => ?_)
            rotate_left
            · (intro w hSw; go_simp; try with_reducible rfl)
            (try simp only [Act.put, List.setIfInBounds_toArray, List.set_cons_zero, List.set_cons_succ])
            refine takeM 22 (v := ?_) rfl (by kernel_rfl) (by kernel_rfl) (by kernel_rfl) (by kernel_rfl) (fun _ _ _ h => h) (Or.inl ⟨by rfl, ?_⟩) (by assumption) (fun hTill => ?_)
            rotate_left
            · (intro w hSw; go_simp; try with_reducible rfl)
            (try simp only [Act.put, List.setIfInBounds_toArray, List.set_cons_zero, List.set_cons_succ])
            refine stepM 23 rfl (by kernel_rfl) (fun K hK => ?_)
            go_simp
            refine hK.out _ _ ?_ (fun hTill => ?_)
            · exact till_over (by kernel_rfl)
            clear hK K
            (try simp only [Act.put, List.setIfInBounds_toArray, List.set_cons_zero, List.set_cons_succ])
            have s1 := set_cell (j := 0) h5 (.int .u32 y0); have z6 := thawed s1.blk; have y6 := (cell_of_block s1.blk 5).trans ((Array.getElem?_setIfInBounds_ne (by decide)).trans h1)
            refine takeM 24 (v := ?_) rfl (by kernel_rfl) (by kernel_rfl) (by kernel_rfl) (by kernel_rfl) (fun _ _ _ h => h) (Or.inl ⟨by rfl, ?_⟩) (by assumption) (fun hTill => ?_)
            rotate_left
            · (intro w hSw; go_simp; try with_reducible rfl)
            (try simp only [Act.put, List.setIfInBounds_toArray, List.set_cons_zero, List.set_cons_succ])
            refine stepM 25 rfl (by kernel_rfl) (fun K hK => ?_)
            go_simp
            refine hK.out _ _ ?_ (fun hTill => ?_)
            · exact till_over (by kernel_rfl)
            clear hK K
            (try simp only [Act.put, List.setIfInBounds_toArray, List.set_cons_zero, List.set_cons_succ])
            have s2 := set_cell (j := 5) s1.blk (.int .u32 y1); have z7 := thawed s2.blk; have y7 := (cell_of_block s2.blk 10).trans ((Array.getElem?_setIfInBounds_ne (by decide)).trans ((Array.getElem?_setIfInBounds_ne (by decide)).trans h2))
            refine takeM 26 (v := ?_) rfl (by kernel_rfl) (by kernel_rfl) (by kernel_rfl) (by kernel_rfl) (fun _ _ _ h => h) (Or.inl ⟨by rfl, ?_⟩) (by assumption) (fun hTill => ?_)
            rotate_left
            · (intro w hSw; go_simp; try with_reducible rfl)
            (try simp only [Act.put, List.setIfInBounds_toArray, List.set_cons_zero, List.set_cons_succ])
            refine stepM 27 rfl (by kernel_rfl) (fun K hK => ?_)
            go_simp
            refine hK.out _ _ ?_ (fun hTill => ?_)
            · exact till_over (by kernel_rfl)
            clear hK K
            (try simp only [Act.put, List.setIfInBounds_toArray, List.set_cons_zero, List.set_cons_succ])
            have s3 := set_cell (j := 10) s2.blk (.int .u32 y2); have z8 := thawed s3.blk; have y8 := (cell_of_block s3.blk 15).trans ((Array.getElem?_setIfInBounds_ne (by decide)).trans ((Array.getElem?_setIfInBounds_ne (by decide)).trans ((Array.getElem?_setIfInBounds_ne (by decide)).trans h3)))
            refine takeM 28 (v := ?_) rfl (by kernel_rfl) (by kernel_rfl) (by kernel_rfl) (by kernel_rfl) (fun _ _ _ h => h) (Or.inl ⟨by rfl, ?_⟩) (by assumption) (fun hTill => ?_)
            rotate_left
            · (intro w hSw; go_simp; try with_reducible rfl)
            (try simp only [Act.put, List.setIfInBounds_toArray, List.set_cons_zero, List.set_cons_succ])
            refine stepM 29 rfl (by kernel_rfl) (fun K hK => ?_)
            go_simp
            refine hK.out _ _ ?_ (fun hTill => ?_)
            · exact till_over (by kernel_rfl)
            clear hK K
            (try simp only [Act.put, List.setIfInBounds_toArray, List.set_cons_zero, List.set_cons_succ])
            have s4 := set_cell (j := 15) s3.blk (.int .u32 y3)
            refine doneM (by kernel_rfl) ?_ _
            refine NoPanic.normal ?_
            have hU4 := (((hUr.set 0 y0).set 5 y1).set 10 y2).set 15 y3
            have u4 := ((((hM.upto.drew.trans (upto_below hb5 (Nat.le_of_lt (block_lt (w := wr.drew) hGr)))).setCell 0 (.int .u32 y0)).setCell 5 (.int .u32 y1)).setCell 10 (.int .u32 y2)).setCell 15 (.int .u32 y3)
            have hM4 : Mixed G 160 w3 _ := ⟨⟨_, s4.blk, hU4⟩, u4⟩
            clear s1 s2 s3 s4 z5 z6 z7 z8 y5 y6 y7 y8 h0 h1 h2 h3 h5 c0 c1 c2 c3 hTill hGr hUr hU4 u4
            go_wp2
            go_roundw
            case rel =>
              exact ⟨1, by decide, rfl, hM4⟩
            case measure => show 4 - (1 : Int).toNat < 4 - (0 : Int).toNat; decide
          · obtain ⟨cs, hGr, hUr⟩ := hM.blk
            obtain ⟨x0, h0⟩ := hUr.2 1 (by decide)
            have c0 : ∀ w', Holds G cs 160 w' → w'.cell? ⟨G, 1, none⟩ = some (.int .u32 x0) := fun w' h => h.cell 1 h0
            obtain ⟨x1, h1⟩ := hUr.2 6 (by decide)
            have c1 : ∀ w', Holds G cs 160 w' → w'.cell? ⟨G, 6, none⟩ = some (.int .u32 x1) := fun w' h => h.cell 6 h1
            obtain ⟨x2, h2⟩ := hUr.2 11 (by decide)
            have c2 : ∀ w', Holds G cs 160 w' → w'.cell? ⟨G, 11, none⟩ = some (.int .u32 x2) := fun w' h => h.cell 11 h2
            obtain ⟨x3, h3⟩ := hUr.2 12 (by decide)
            have c3 : ∀ w', Holds G cs 160 w' → w'.cell? ⟨G, 12, none⟩ = some (.int .u32 x3) := fun w' h => h.cell 12 h3
            go_wp2_with fail
            refine wp_region_noPanic ?_
            refine wp_region_till (T := Holds G cs 160) 16 (by kernel_rfl) ?_ (fun hTill => ?_)
            · exact hGr
            refine takeM 0 (v := ?_) rfl (by kernel_rfl) (by kernel_rfl) (by kernel_rfl) (by kernel_rfl) (fun _ _ _ h => h) (Or.inl ⟨by rfl, ?_⟩) (by assumption) (fun hTill => ?_)
            rotate_left
            · (intro w hSw; go_simp; try with_reducible rfl)
            (try simp only [Act.put, List.setIfInBounds_toArray, List.set_cons_zero, List.set_cons_succ])
            refine takeM 1 (v := ?_) rfl (by kernel_rfl) (by kernel_rfl) (by kernel_rfl) (by kernel_rfl) (fun _ _ _ h => h) (Or.inl ⟨by rfl, ?_⟩) (by assumption) (fun hTill => ?_)
            rotate_left
            · (intro w hSw; go_simp; try with_reducible rfl)
            (try simp only [Act.put, List.setIfInBounds_toArray, List.set_cons_zero, List.set_cons_succ])
            refine takeM 2 (v := ?_) rfl (by kernel_rfl) (by kernel_rfl) (by kernel_rfl) (by kernel_rfl) (fun _ _ _ h => h) (Or.inl ⟨by rfl, ?_⟩) (by assumption) (fun hTill => ?_)
            rotate_left
            · (intro w hSw; go_simp; try with_reducible rfl)
            (try simp only [Act.put, List.setIfInBounds_toArray, List.set_cons_zero, List.set_cons_succ])
            refine takeM 3 (v := ?_) rfl (by kernel_rfl) (by kernel_rfl) (by kernel_rfl) (by kernel_rfl) (fun _ _ _ h => h) (Or.inl ⟨by rfl, ?_⟩) (by assumption) (fun hTill => ?_)
            rotate_left
            · (intro w hSw; go_simp; try with_reducible rfl)
            (try simp only [Act.put, List.setIfInBounds_toArray, List.set_cons_zero, List.set_cons_succ])
            refine takeM 4 (v := ?_) rfl (by kernel_rfl) (by kernel_rfl) (by kernel_rfl) (by kernel_rfl) (fun _ _ _ h => h) (Or.inl ⟨by rfl, ?_⟩) (by assumption) (fun hTill => ?_)
            rotate_left
            · (intro w hSw; go_simp; try with_reducible rfl)
            (try simp only [Act.put, List.setIfInBounds_toArray, List.set_cons_zero, List.set_cons_succ])
            refine takeM 5 (v := ?_) rfl (by kernel_rfl) (by kernel_rfl) (by kernel_rfl) (by kernel_rfl) (fun _ _ _ h => h) (Or.inl ⟨by rfl, ?_⟩) (by assumption) (fun hTill => ?_)
            rotate_left
            · (intro w hSw; go_simp; try with_reducible rfl)
            (try simp only [Act.put, List.setIfInBounds_toArray, List.set_cons_zero, List.set_cons_succ])
            refine takeT 6 (v := ?_) rfl (by kernel_rfl) (by kernel_rfl) (by kernel_rfl) (by kernel_rfl) (by kernel_rfl) (by kernel_rfl) (fun _ _ _ h => h) (Or.inl ⟨by rfl, ?_⟩) (by assumption) (fun hTill => ?_)
            rotate_left
            · (intro w hSw; go_simp; try with_reducible rfl)
            (try simp only [Act.put, List.setIfInBounds_toArray, List.set_cons_zero, List.set_cons_succ])
            refine takeM 7 (v := ?_) rfl (by kernel_rfl) (by kernel_rfl) (by kernel_rfl) (by kernel_rfl) (fun _ _ _ h => h) (Or.inl ⟨by rfl, ?_⟩) (by assumption) (fun hTill => ?_)
            rotate_left
            · (intro w hSw; go_simp; try with_reducible rfl)
            (try simp only [Act.put, List.setIfInBounds_toArray, List.set_cons_zero, List.set_cons_succ])
            refine takeM 8 (v := ?_) rfl (by kernel_rfl) (by kernel_rfl) (by kernel_rfl) (by kernel_rfl) (fun _ _ _ h => h) (Or.inl ⟨by rfl, ?_⟩) (by assumption) (fun hTill => ?_)
            rotate_left
            · (intro w hSw; go_simp; try with_reducible rfl)
            (try simp only [Act.put, List.setIfInBounds_toArray, List.set_cons_zero, List.set_cons_succ])
            refine takeT 9 (v := ?_) rfl (by kernel_rfl) (by kernel_rfl) (by kernel_rfl) (by kernel_rfl) (by kernel_rfl) (by kernel_rfl) (fun _ _ _ h => h) (Or.inl ⟨by rfl, ?_⟩) (by assumption) (fun hTill => ?_)
            rotate_left
            · (intro w hSw; go_simp; try with_reducible rfl)
            (try simp only [Act.put, List.setIfInBounds_toArray, List.set_cons_zero, List.set_cons_succ])
            refine takeM 10 (v := ?_) rfl (by kernel_rfl) (by kernel_rfl) (by kernel_rfl) (by kernel_rfl) (fun _ _ _ h => h) (Or.inl ⟨by rfl, ?_⟩) (by assumption) (fun hTill => ?_)
            rotate_left
            · (intro w hSw; go_simp; try with_reducible rfl)
            (try simp only [Act.put, List.setIfInBounds_toArray, List.set_cons_zero, List.set_cons_succ])
            refine takeM 11 (v := ?_) rfl (by kernel_rfl) (by kernel_rfl) (by kernel_rfl) (by kernel_rfl) (fun _ _ _ h => h) (Or.inl ⟨by rfl, ?_⟩) (by assumption) (fun hTill => ?_)
            rotate_left
            · (intro w hSw; go_simp; try with_reducible rfl)
            (try simp only [Act.put, List.setIfInBounds_toArray, List.set_cons_zero, List.set_cons_succ])
            refine takeT 12 (v := ?_) rfl (by kernel_rfl) (by kernel_rfl) (by kernel_rfl) (by kernel_rfl) (by kernel_rfl) (by kernel_rfl) (fun _ _ _ h => h) (Or.inl ⟨by rfl, ?_⟩) (by assumption) (fun hTill => ?_)
            rotate_left
            · (intro w hSw; go_simp; try with_reducible rfl)
            (try simp only [Act.put, List.setIfInBounds_toArray, List.set_cons_zero, List.set_cons_succ])
            refine takeM 13 (v := ?_) rfl (by kernel_rfl) (by kernel_rfl) (by kernel_rfl) (by kernel_rfl) (fun _ _ _ h => h) (Or.inl ⟨by rfl, ?_⟩) (by assumption) (fun hTill => ?_)
            rotate_left
            · (intro w hSw; go_simp; try with_reducible rfl)
            (try simp only [Act.put, List.setIfInBounds_toArray, List.set_cons_zero, List.set_cons_succ])
            refine takeM 14 (v := ?_) rfl (by kernel_rfl) (by kernel_rfl) (by kernel_rfl) (by kernel_rfl) (fun _ _ _ h => h) (Or.inl ⟨by rfl, ?_⟩) (by assumption) (fun hTill => ?_)
            rotate_left
            · (intro w hSw; go_simp; try with_reducible rfl)
            (try simp only [Act.put, List.setIfInBounds_toArray, List.set_cons_zero, List.set_cons_succ])
            refine takeT 15 (v := ?_) rfl (by kernel_rfl) (by kernel_rfl) (by kernel_rfl) (by kernel_rfl) (by kernel_rfl) (by kernel_rfl) (fun _ _ _ h => h) (Or.inl ⟨by rfl, ?_⟩) (by assumption) (fun hTill => ?_)
            rotate_left
            · (intro w hSw; go_simp; try with_reducible rfl)
            (try simp only [Act.put, List.setIfInBounds_toArray, List.set_cons_zero, List.set_cons_succ])
            refine stepM 16 rfl (by kernel_rfl) (fun K hK => ?_)
            (go_simp; go_at_call 98; refine (quarter_any x0 x1 x2 x3 _).mono ?_; rintro e w5 ⟨⟨y0, y1, y2, y3, rfl⟩, hb5⟩; have h5 := blk_on (w := wr.drew) hGr hb5; have z5 := thawed h5; have y5 := (cell_of_block h5 1).trans h0)
            refine hK.out _ _ ?_ (fun hTill => ?_)
            · exact till_over (by kernel_rfl)
            clear hK K
            (try simp only [Act.put, List.setIfInBounds_toArray, List.set_cons_zero, List.set_cons_succ])
            refine takeM 17 (v := ?_) rfl (by kernel_rfl) (by kernel_rfl) (by kernel_rfl) (by kernel_rfl) (fun _ _ _ h => h) (Or.inl ⟨by rfl, ?_⟩) (by assumption) (fun hTill => ?_)
            rotate_left
            · (intro w hSw; go_simp; try with_reducible rfl)
            (try simp only [Act.put, List.setIfInBounds_toArray, List.set_cons_zero, List.set_cons_succ])
            refine takeM 18 (v := ?_) rfl (by kernel_rfl) (by kernel_rfl) (by kernel_rfl) (by kernel_rfl) (fun _ _ _ h => h) (Or.inl ⟨by rfl, ?_⟩) (by assumption) (fun hTill => ?_)
            rotate_left
            · (intro w hSw; go_simp; try with_reducible rfl)
            (try simp only [Act.put, List.setIfInBounds_toArray, List.set_cons_zero, List.set_cons_succ])
            refine takeM 19 (v := ?_) rfl (by kernel_rfl) (by kernel_rfl) (by kernel_rfl) (by kernel_rfl) (fun _ _ _ h => h) (Or.inl ⟨by rfl, ?_⟩) (by assumption) (fun hTill => ?_)
            rotate_left
            · (intro w hSw; go_simp; try with_reducible rfl)
            (try simp only [Act.put, List.setIfInBounds_toArray, List.set_cons_zero, List.set_cons_succ])
            refine takeM 20 (v := ?_) rfl (by kernel_rfl) (by kernel_rfl) (by kernel_rfl) (by kernel_rfl) (fun _ _ _ h => h) (Or.inl ⟨by rfl, ?_⟩) (by assumption) (fun hTill => ?_)
            rotate_left
            · (intro w hSw; go_simp; try with_reducible rfl)
            (try simp only [Act.put, List.setIfInBounds_toArray, List.set_cons_zero, List.set_cons_succ])
            refine takeM 21 (v := ?_) rfl (by kernel_rfl) (by kernel_rfl) (by kernel_rfl) (by kernel_rfl) (fun _ _ _ h => h) (Or.inl ⟨by rfl, ?_⟩) (by assumption) (fun hTill => ?_)
            rotate_left
            · (intro w hSw; go_simp; try with_reducible rfl)
            (try simp only [Act.put, List.setIfInBounds_toArray, List.set_cons_zero, List.set_cons_succ])
            refine takeM 22 (v := ?_) rfl (by kernel_rfl) (by kernel_rfl) (by kernel_rfl) (by kernel_rfl) (fun _ _ _ h => h) (Or.inl ⟨by rfl, ?_⟩) (by assumption) (fun hTill => ?_)
            rotate_left
            · (intro w hSw; go_simp; try with_reducible rfl)
            (try simp only [Act.put, List.setIfInBounds_toArray, List.set_cons_zero, List.set_cons_succ])
            refine stepM 23 rfl (by kernel_rfl) (fun K hK => ?_)
            go_simp
            refine hK.out _ _ ?_ (fun hTill => ?_)
            · exact till_over (by kernel_rfl)
            clear hK K
            (try simp only [Act.put, List.setIfInBounds_toArray, List.set_cons_zero, List.set_cons_succ])
            have s1 := set_cell (j := 1) h5 (.int .u32 y0); have z6 := thawed s1.blk; have y6 := (cell_of_block s1.blk 6).trans ((Array.getElem?_setIfInBounds_ne (by decide)).trans h1)
            refine takeM 24 (v := ?_) rfl (by kernel_rfl) (by kernel_rfl) (by kernel_rfl) (by kernel_rfl) (fun _ _ _ h => h) (Or.inl ⟨by rfl, ?_⟩) (by assumption) (fun hTill => ?_)
            rotate_left
            · (intro w hSw; go_simp; try with_reducible rfl)
            (try simp only [Act.put, List.setIfInBounds_toArray, List.set_cons_zero, List.set_cons_succ])
            refine stepM 25 rfl (by kernel_rfl) (fun K hK => ?_)
            go_simp
            refine hK.out _ _ ?_ (fun hTill => ?_)
            · exact till_over (by kernel_rfl)
            clear hK K
            (try simp only [Act.put, List.setIfInBounds_toArray, List.set_cons_zero, List.set_cons_succ])
            have s2 := set_cell (j := 6) s1.blk (.int .u32 y1); have z7 := thawed s2.blk; have y7 := (cell_of_block s2.blk 11).trans ((Array.getElem?_setIfInBounds_ne (by decide)).trans ((Array.getElem?_setIfInBounds_ne (by decide)).trans h2))
            refine takeM 26 (v := ?_) rfl (by kernel_rfl) (by kernel_rfl) (by kernel_rfl) (by kernel_rfl) (fun _ _ _ h => h) (Or.inl ⟨by rfl, ?_⟩) (by assumption) (fun hTill => ?_)
            rotate_left
            · (intro w hSw; go_simp; try with_reducible rfl)
            (try simp only [Act.put, List.setIfInBounds_toArray, List.set_cons_zero, List.set_cons_succ])
            refine stepM 27 rfl (by kernel_rfl) (fun K hK => ?_)
            go_simp
            refine hK.out _ _ ?_ (fun hTill => ?_)
            · exact till_over (by kernel_rfl)
            clear hK K
            (try simp only [Act.put, List.setIfInBounds_toArray, List.set_cons_zero, List.set_cons_succ])
            have s3 := set_cell (j := 11) s2.blk (.int .u32 y2); have z8 := thawed s3.blk; have y8 := (cell_of_block s3.blk 12).trans ((Array.getElem?_setIfInBounds_ne (by decide)).trans ((Array.getElem?_setIfInBounds_ne (by decide)).trans ((Array.getElem?_setIfInBounds_ne (by decide)).trans h3)))
            refine takeM 28 (v := ?_) rfl (by kernel_rfl) (by kernel_rfl) (by kernel_rfl) (by kernel_rfl) (fun _ _ _ h => h) (Or.inl ⟨by rfl, ?_⟩) (by assumption) (fun hTill => ?_)
            rotate_left
            · (intro w hSw; go_simp; try with_reducible rfl)
            (try simp only [Act.put, List.setIfInBounds_toArray, List.set_cons_zero, List.set_cons_succ])
            refine stepM 29 rfl (by kernel_rfl) (fun K hK => ?_)
            go_simp
            refine hK.out _ _ ?_ (fun hTill => ?_)
            · exact till_over (by kernel_rfl)
            clear hK K
            (try simp only [Act.put, List.setIfInBounds_toArray, List.set_cons_zero, List.set_cons_succ])
            have s4 := set_cell (j := 12) s3.blk (.int .u32 y3)
            refine doneM (by kernel_rfl) ?_ _
            refine NoPanic.normal ?_
            have hU4 := (((hUr.set 1 y0).set 6 y1).set 11 y2).set 12 y3
            have u4 := ((((hM.upto.drew.trans (upto_below hb5 (Nat.le_of_lt (block_lt (w := wr.drew) hGr)))).setCell 1 (.int .u32 y0)).setCell 6 (.int .u32 y1)).setCell 11 (.int .u32 y2)).setCell 12 (.int .u32 y3)
            have hM4 : Mixed G 160 w3 _ := ⟨⟨_, s4.blk, hU4⟩, u4⟩
            clear s1 s2 s3 s4 z5 z6 z7 z8 y5 y6 y7 y8 h0 h1 h2 h3 h5 c0 c1 c2 c3 hTill hGr hUr hU4 u4
            go_wp2
            go_roundw
            case rel =>
              exact ⟨2, by decide, rfl, hM4⟩
            case measure => show 4 - (2 : Int).toNat < 4 - (1 : Int).toNat; decide
          · obtain ⟨cs, hGr, hUr⟩ := hM.blk
            obtain ⟨x0, h0⟩ := hUr.2 2 (by decide)
            have c0 : ∀ w', Holds G cs 160 w' → w'.cell? ⟨G, 2, none⟩ = some (.int .u32 x0) := fun w' h => h.cell 2 h0
            obtain ⟨x1, h1⟩ := hUr.2 7 (by decide)
            have c1 : ∀ w', Holds G cs 160 w' → w'.cell? ⟨G, 7, none⟩ = some (.int .u32 x1) := fun w' h => h.cell 7 h1
            obtain ⟨x2, h2⟩ := hUr.2 8 (by decide)
            have c2 : ∀ w', Holds G cs 160 w' → w'.cell? ⟨G, 8, none⟩ = some (.int .u32 x2) := fun w' h => h.cell 8 h2
            obtain ⟨x3, h3⟩ := hUr.2 13 (by decide)
            have c3 : ∀ w', Holds G cs 160 w' → w'.cell? ⟨G, 13, none⟩ = some (.int .u32 x3) := fun w' h => h.cell 13 h3
            go_wp2_with fail
            refine wp_region_noPanic ?_
            refine wp_region_till (T := Holds G cs 160) 16 (by kernel_rfl) ?_ (fun hTill => ?_)
            · exact hGr
            refine takeM 0 (v := ?_) rfl (by kernel_rfl) (by kernel_rfl) (by kernel_rfl) (by kernel_rfl) (fun _ _ _ h => h) (Or.inl ⟨by rfl, ?_⟩) (by assumption) (fun hTill => ?_)
            rotate_left
            · (intro w hSw; go_simp; try with_reducible rfl)
            (try simp only [Act.put, List.setIfInBounds_toArray, List.set_cons_zero, List.set_cons_succ])
            refine takeM 1 (v := ?_) rfl (by kernel_rfl) (by kernel_rfl) (by kernel_rfl) (by kernel_rfl) (fun _ _ _ h => h) (Or.inl ⟨by rfl, ?_⟩) (by assumption) (fun hTill => ?_)
            rotate_left
            · (intro w hSw; go_simp; try with_reducible rfl)
            (try simp only [Act.put, List.setIfInBounds_toArray, List.set_cons_zero, List.set_cons_succ])
            refine takeM 2 (v := ?_) rfl (by kernel_rfl) (by kernel_rfl) (by kernel_rfl) (by kernel_rfl) (fun _ _ _ h => h) (Or.inl ⟨by rfl, ?_⟩) (by assumption) (fun hTill => ?_)
            rotate_left
            · (intro w hSw; go_simp; try with_reducible rfl)
            (try simp only [Act.put, List.setIfInBounds_toArray, List.set_cons_zero, List.set_cons_succ])
            refine takeM 3 (v := ?_) rfl (by kernel_rfl) (by kernel_rfl) (by kernel_rfl) (by kernel_rfl) (fun _ _ _ h => h) (Or.inl ⟨by rfl, ?_⟩) (by assumption) (fun hTill => ?_)
            rotate_left
            · (intro w hSw; go_simp; try with_reducible rfl)
            (try simp only [Act.put, List.setIfInBounds_toArray, List.set_cons_zero, List.set_cons_succ])
            refine takeM 4 (v := ?_) rfl (by kernel_rfl) (by kernel_rfl) (by kernel_rfl) (by kernel_rfl) (fun _ _ _ h => h) (Or.inl ⟨by rfl, ?_⟩) (by assumption) (fun hTill => ?_)
            rotate_left
            · (intro w hSw; go_simp; try with_reducible rfl)
            (try simp only [Act.put, List.setIfInBounds_toArray, List.set_cons_zero, List.set_cons_succ])
            refine takeM 5 (v := ?_) rfl (by kernel_rfl) (by kernel_rfl) (by kernel_rfl) (by kernel_rfl) (fun _ _ _ h => h) (Or.inl ⟨by rfl, ?_⟩) (by assumption) (fun hTill => ?_)
            rotate_left
            · (intro w hSw; go_simp; try with_reducible rfl)
            (try simp only [Act.put, List.setIfInBounds_toArray, List.set_cons_zero, List.set_cons_succ])
            refine takeT 6 (v := ?_) rfl (by kernel_rfl) (by kernel_rfl) (by kernel_rfl) (by kernel_rfl) (by kernel_rfl) (by kernel_rfl) (fun _ _ _ h => h) (Or.inl ⟨by rfl, ?_⟩) (by assumption) (fun hTill => ?_)
            rotate_left
            · (intro w hSw; go_simp; try with_reducible rfl)
            (try simp only [Act.put, List.setIfInBounds_toArray, List.set_cons_zero, List.set_cons_succ])
            refine takeM 7 (v := ?_) rfl (by kernel_rfl) (by kernel_rfl) (by kernel_rfl) (by kernel_rfl) (fun _ _ _ h => h) (Or.inl ⟨by rfl, ?_⟩) (by assumption) (fun hTill => ?_)
            rotate_left
            · (intro w hSw; go_simp; try with_reducible rfl)
            (try simp only [Act.put, List.setIfInBounds_toArray, List.set_cons_zero, List.set_cons_succ])
            refine takeM 8 (v := ?_) rfl (by kernel_rfl) (by kernel_rfl) (by kernel_rfl) (by kernel_rfl) (fun _ _ _ h => h) (Or.inl ⟨by rfl, ?_⟩) (by assumption) (fun hTill => ?_)
            rotate_left
            · (intro w hSw; go_simp; try with_reducible rfl)
            (try simp only [Act.put, List.setIfInBounds_toArray, List.set_cons_zero, List.set_cons_succ])
            refine takeT 9 (v := ?_) rfl (by kernel_rfl) (by kernel_rfl) (by kernel_rfl) (by kernel_rfl) (by kernel_rfl) (by kernel_rfl) (fun _ _ _ h => h) (Or.inl ⟨by rfl, ?_⟩) (by assumption) (fun hTill => ?_)
            rotate_left
            · (intro w hSw; go_simp; try with_reducible rfl)
            (try simp only [Act.put, List.setIfInBounds_toArray, List.set_cons_zero, List.set_cons_succ])
            refine takeM 10 (v := ?_) rfl (by kernel_rfl) (by kernel_rfl) (by kernel_rfl) (by kernel_rfl) (fun _ _ _ h => h) (Or.inl ⟨by rfl, ?_⟩) (by assumption) (fun hTill => ?_)
            rotate_left
            · (intro w hSw; go_simp; try with_reducible rfl)
            (try simp only [Act.put, List.setIfInBounds_toArray, List.set_cons_zero, List.set_cons_succ])
            refine takeM 11 (v := ?_) rfl (by kernel_rfl) (by kernel_rfl) (by kernel_rfl) (by kernel_rfl) (fun _ _ _ h => h) (Or.inl ⟨by rfl, ?_⟩) (by assumption) (fun hTill => ?_)
            rotate_left
            · (intro w hSw; go_simp; try with_reducible rfl)
            (try simp only [Act.put, List.setIfInBounds_toArray, List.set_cons_zero, List.set_cons_succ])
            refine takeT 12 (v := ?_) rfl (by kernel_rfl) (by kernel_rfl) (by kernel_rfl) (by kernel_rfl) (by kernel_rfl) (by kernel_rfl) (fun _ _ _ h => h) (Or.inl ⟨by rfl, ?_⟩) (by assumption) (fun hTill => ?_)
            rotate_left
            · (intro w hSw; go_simp; try with_reducible rfl)
            (try simp only [Act.put, List.setIfInBounds_toArray, List.set_cons_zero, List.set_cons_succ])
            refine takeM 13 (v := ?_) rfl (by kernel_rfl) (by kernel_rfl) (by kernel_rfl) (by kernel_rfl) (fun _ _ _ h => h) (Or.inl ⟨by rfl, ?_⟩) (by assumption) (fun hTill => ?_)
            rotate_left
            · (intro w hSw; go_simp; try with_reducible rfl)
            (try simp only [Act.put, List.setIfInBounds_toArray, List.set_cons_zero, List.set_cons_succ])
            refine takeM 14 (v := ?_) rfl (by kernel_rfl) (by kernel_rfl) (by kernel_rfl) (by kernel_rfl) (fun _ _ _ h => h) (Or.inl ⟨by rfl, ?_⟩) (by assumption) (fun hTill => ?_)
            rotate_left
            · (intro w hSw; go_simp; try with_reducible rfl)
            (try simp only [Act.put, List.setIfInBounds_toArray, List.set_cons_zero, List.set_cons_succ])
            refine takeT 15 (v := ?_) rfl (by kernel_rfl) (by kernel_rfl) (by kernel_rfl) (by kernel_rfl) (by kernel_rfl) (by kernel_rfl) (fun _ _ _ h => h) (Or.inl ⟨by rfl, ?_⟩) (by assumption) (fun hTill => ?_)
            rotate_left
            · (intro w hSw; go_simp; try with_reducible rfl)
            (try simp only [Act.put, List.setIfInBounds_toArray, List.set_cons_zero, List.set_cons_succ])
            refine stepM 16 rfl (by kernel_rfl) (fun K hK => ?_)
            (go_simp; go_at_call 98; refine (quarter_any x0 x1 x2 x3 _).mono ?_; rintro e w5 ⟨⟨y0, y1, y2, y3, rfl⟩, hb5⟩; have h5 := blk_on (w := wr.drew) hGr hb5; have z5 := thawed h5; have y5 := (cell_of_block h5 2).trans h0)
            refine hK.out _ _ ?_ (fun hTill => ?_)
            · exact till_over (by kernel_rfl)
            clear hK K
            (try simp only [Act.put, List.setIfInBounds_toArray, List.set_cons_zero, List.set_cons_succ])
            refine takeM 17 (v := ?_) rfl (by kernel_rfl) (by kernel_rfl) (by kernel_rfl) (by kernel_rfl) (fun _ _ _ h => h) (Or.inl ⟨by rfl, ?_⟩) (by assumption) (fun hTill => ?_)
            rotate_left
            · (intro w hSw; go_simp; try with_reducible rfl)
            (try simp only [Act.put, List.setIfInBounds_toArray, List.set_cons_zero, List.set_cons_succ])
            refine takeM 18 (v := ?_) rfl (by kernel_rfl) (by kernel_rfl) (by kernel_rfl) (by kernel_rfl) (fun _ _ _ h => h) (Or.inl ⟨by rfl, ?_⟩) (by assumption) (fun hTill => ?_)
            rotate_left
            · (intro w hSw; go_simp; try with_reducible rfl)
            (try simp only [Act.put, List.setIfInBounds_toArray, List.set_cons_zero, List.set_cons_succ])
            refine takeM 19 (v := ?_) rfl (by kernel_rfl) (by kernel_rfl) (by kernel_rfl) (by kernel_rfl) (fun _ _ _ h => h) (Or.inl ⟨by rfl, ?_⟩) (by assumption) (fun hTill => ?_)
            rotate_left
            · (intro w hSw; go_simp; try with_reducible rfl)
            (try simp only [Act.put, List.setIfInBounds_toArray, List.set_cons_zero, List.set_cons_succ])
            refine takeM 20 (v := ?_) rfl (by kernel_rfl) (by kernel_rfl) (by kernel_rfl) (by kernel_rfl) (fun _ _ _ h => h) (Or.inl ⟨by rfl, ?_⟩) (by assumption) (fun hTill => ?_)
            rotate_left
            · (intro w hSw; go_simp; try with_reducible rfl)
            (try simp only [Act.put, List.setIfInBounds_toArray, List.set_cons_zero, List.set_cons_succ])
            refine takeM 21 (v := ?_) rfl (by kernel_rfl) (by kernel_rfl) (by kernel_rfl) (by kernel_rfl) (fun _ _ _ h => h) (Or.inl ⟨by rfl, ?_⟩) (by assumption) (fun hTill => ?_)
            rotate_left
            · (intro w hSw; go_simp; try with_reducible rfl)
            (try simp only [Act.put, List.setIfInBounds_toArray, List.set_cons_zero, List.set_cons_succ])
            refine takeM 22 (v := ?_) rfl (by kernel_rfl) (by kernel_rfl) (by kernel_rfl) (by kernel_rfl) (fun _ _ _ h => h) (Or.inl ⟨by rfl, ?_⟩) (by assumption) (fun hTill => ?_)
            rotate_left
            · (intro w hSw; go_simp; try with_reducible rfl)
            (try simp only [Act.put, List.setIfInBounds_toArray, List.set_cons_zero, List.set_cons_succ])
            refine stepM 23 rfl (by kernel_rfl) (fun K hK => ?_)
            go_simp
            refine hK.out _ _ ?_ (fun hTill => ?_)
            · exact till_over (by kernel_rfl)
            clear hK K
            (try simp only [Act.put, List.setIfInBounds_toArray, List.set_cons_zero, List.set_cons_succ])
            have s1 := set_cell (j := 2) h5 (.int .u32 y0); have z6 := thawed s1.blk; have y6 := (cell_of_block s1.blk 7).trans ((Array.getElem?_setIfInBounds_ne (by decide)).trans h1)
            refine takeM 24 (v := ?_) rfl (by kernel_rfl) (by kernel_rfl) (by kernel_rfl) (by kernel_rfl) (fun _ _ _ h => h) (Or.inl ⟨by rfl, ?_⟩) (by assumption) (fun hTill => ?_)
            rotate_left
            · (intro w hSw; go_simp; try with_reducible rfl)
            (try simp only [Act.put, List.setIfInBounds_toArray, List.set_cons_zero, List.set_cons_succ])
            refine stepM 25 rfl (by kernel_rfl) (fun K hK => ?_)
            go_simp
            refine hK.out _ _ ?_ (fun hTill => ?_)
            · exact till_over (by kernel_rfl)
            clear hK K
            (try simp only [Act.put, List.setIfInBounds_toArray, List.set_cons_zero, List.set_cons_succ])
            have s2 := set_cell (j := 7) s1.blk (.int .u32 y1); have z7 := thawed s2.blk; have y7 := (cell_of_block s2.blk 8).trans ((Array.getElem?_setIfInBounds_ne (by decide)).trans ((Array.getElem?_setIfInBounds_ne (by decide)).trans h2))
            refine takeM 26 (v := ?_) rfl (by kernel_rfl) (by kernel_rfl) (by kernel_rfl) (by kernel_rfl) (fun _ _ _ h => h) (Or.inl ⟨by rfl, ?_⟩) (by assumption) (fun hTill => ?_)
            rotate_left
            · (intro w hSw; go_simp; try with_reducible rfl)
            (try simp only [Act.put, List.setIfInBounds_toArray, List.set_cons_zero, List.set_cons_succ])
            refine stepM 27 rfl (by kernel_rfl) (fun K hK => ?_)
            go_simp
            refine hK.out _ _ ?_ (fun hTill => ?_)
            · exact till_over (by kernel_rfl)
            clear hK K
            (try simp only [Act.put, List.setIfInBounds_toArray, List.set_cons_zero, List.set_cons_succ])
            have s3 := set_cell (j := 8) s2.blk (.int .u32 y2); have z8 := thawed s3.blk; have y8 := (cell_of_block s3.blk 13).trans ((Array.getElem?_setIfInBounds_ne (by decide)).trans ((Array.getElem?_setIfInBounds_ne (by decide)).trans ((Array.getElem?_setIfInBounds_ne (by decide)).trans h3)))
            refine takeM 28 (v := ?_) rfl (by kernel_rfl) (by kernel_rfl) (by kernel_rfl) (by kernel_rfl) (fun _ _ _ h => h) (Or.inl ⟨by rfl, ?_⟩) (by assumption) (fun hTill => ?_)
            rotate_left
            · (intro w hSw; go_simp; try with_reducible rfl)
            (try simp only [Act.put, List.setIfInBounds_toArray, List.set_cons_zero, List.set_cons_succ])
            refine stepM 29 rfl (by kernel_rfl) (fun K hK => ?_)
            go_simp
            refine hK.out _ _ ?_ (fun hTill => ?_)
            · exact till_over (by kernel_rfl)
            clear hK K
            (try simp only [Act.put, List.setIfInBounds_toArray, List.set_cons_zero, List.set_cons_succ])
            have s4 := set_cell (j := 13) s3.blk (.int .u32 y3)
            refine doneM (by kernel_rfl) ?_ _
            refine NoPanic.normal ?_
            have hU4 := (((hUr.set 2 y0).set 7 y1).set 8 y2).set 13 y3
            have u4 := ((((hM.upto.drew.trans (upto_below hb5 (Nat.le_of_lt (block_lt (w := wr.drew) hGr)))).setCell 2 (.int .u32 y0)).setCell 7 (.int .u32 y1)).setCell 8 (.int .u32 y2)).setCell 13 (.int .u32 y3)
            have hM4 : Mixed G 160 w3 _ := ⟨⟨_, s4.blk, hU4⟩, u4⟩
            clear s1 s2 s3 s4 z5 z6 z7 z8 y5 y6 y7 y8 h0 h1 h2 h3 h5 c0 c1 c2 c3 hTill hGr hUr hU4 u4
            go_wp2
            go_roundw
            case rel =>
              exact ⟨3, by decide, rfl, hM4⟩
            case measure => show 4 - (3 : Int).toNat < 4 - (2 : Int).toNat; decide
          · obtain ⟨cs, hGr, hUr⟩ := hM.blk
            obtain ⟨x0, h0⟩ := hUr.2 3 (by decide)
            have c0 : ∀ w', Holds G cs 160 w' → w'.cell? ⟨G, 3, none⟩ = some (.int .u32 x0) := fun w' h => h.cell 3 h0
            obtain ⟨x1, h1⟩ := hUr.2 4 (by decide)
            have c1 : ∀ w', Holds G cs 160 w' → w'.cell? ⟨G, 4, none⟩ = some (.int .u32 x1) := fun w' h => h.cell 4 h1
            obtain ⟨x2, h2⟩ := hUr.2 9 (by decide)
            have c2 : ∀ w', Holds G cs 160 w' → w'.cell? ⟨G, 9, none⟩ = some (.int .u32 x2) := fun w' h => h.cell 9 h2
            obtain ⟨x3, h3⟩ := hUr.2 14 (by decide)
            have c3 : ∀ w', Holds G cs 160 w' → w'.cell? ⟨G, 14, none⟩ = some (.int .u32 x3) := fun w' h => h.cell 14 h3
            go_wp2_with fail
            refine wp_region_noPanic ?_
            refine wp_region_till (T := Holds G cs 160) 16 (by kernel_rfl) ?_ (fun hTill => ?_)
            · exact hGr
            refine takeM 0 (v := ?_) rfl (by kernel_rfl) (by kernel_rfl) (by kernel_rfl) (by kernel_rfl) (fun _ _ _ h => h) (Or.inl ⟨by rfl, ?_⟩) (by assumption) (fun hTill => ?_)
            rotate_left
            · (intro w hSw; go_simp; try with_reducible rfl)
            (try simp only [Act.put, List.setIfInBounds_toArray, List.set_cons_zero, List.set_cons_succ])
            refine takeM 1 (v := ?_) rfl (by kernel_rfl) (by kernel_rfl) (by kernel_rfl) (by kernel_rfl) (fun _ _ _ h => h) (Or.inl ⟨by rfl, ?_⟩) (by assumption) (fun hTill => ?_)
            rotate_left
            · (intro w hSw; go_simp; try with_reducible rfl)
            (try simp only [Act.put, List.setIfInBounds_toArray, List.set_cons_zero, List.set_cons_succ])
            refine takeM 2 (v := ?_) rfl (by kernel_rfl) (by kernel_rfl) (by kernel_rfl) (by kernel_rfl) (fun _ _ _ h => h) (Or.inl ⟨by rfl, ?_⟩) (by assumption) (fun hTill => ?_)
            rotate_left
            · (intro w hSw; go_simp; try with_reducible rfl)
            (try simp only [Act.put, List.setIfInBounds_toArray, List.set_cons_zero, List.set_cons_succ])
            refine takeM 3 (v := ?_) rfl (by kernel_rfl) (by kernel_rfl) (by kernel_rfl) (by kernel_rfl) (fun _ _ _ h => h) (Or.inl ⟨by rfl, ?_⟩) (by assumption) (fun hTill => ?_)
            rotate_left
            · (intro w hSw; go_simp; try with_reducible rfl)
            (try simp only [Act.put, List.setIfInBounds_toArray, List.set_cons_zero, List.set_cons_succ])
            refine takeM 4 (v := ?_) rfl (by kernel_rfl) (by kernel_rfl) (by kernel_rfl) (by kernel_rfl) (fun _ _ _ h => h) (Or.inl ⟨by rfl, ?_⟩) (by assumption) (fun hTill => ?_)
            rotate_left
            · (intro w hSw; go_simp; try with_reducible rfl)
            (try simp only [Act.put, List.setIfInBounds_toArray, List.set_cons_zero, List.set_cons_succ])
            refine takeM 5 (v := ?_) rfl (by kernel_rfl) (by kernel_rfl) (by kernel_rfl) (by kernel_rfl) (fun _ _ _ h => h) (Or.inl ⟨by rfl, ?_⟩) (by assumption) (fun hTill => ?_)
            rotate_left
            · (intro w hSw; go_simp; try with_reducible rfl)
            (try simp only [Act.put, List.setIfInBounds_toArray, List.set_cons_zero, List.set_cons_succ])
            refine takeT 6 (v := ?_) rfl (by kernel_rfl) (by kernel_rfl) (by kernel_rfl) (by kernel_rfl) (by kernel_rfl) (by kernel_rfl) (fun _ _ _ h => h) (Or.inl ⟨by rfl, ?_⟩) (by assumption) (fun hTill => ?_)
            rotate_left
            · (intro w hSw; go_simp; try with_reducible rfl)
            (try simp only [Act.put, List.setIfInBounds_toArray, List.set_cons_zero, List.set_cons_succ])
            refine takeM 7 (v := ?_) rfl (by kernel_rfl) (by kernel_rfl) (by kernel_rfl) (by kernel_rfl) (fun _ _ _ h => h) (Or.inl ⟨by rfl, ?_⟩) (by assumption) (fun hTill => ?_)
            rotate_left
            · (intro w hSw; go_simp; try with_reducible rfl)
            (try simp only [Act.put, List.setIfInBounds_toArray, List.set_cons_zero, List.set_cons_succ])
            refine takeM 8 (v := ?_) rfl (by kernel_rfl) (by kernel_rfl) (by kernel_rfl) (by kernel_rfl) (fun _ _ _ h => h) (Or.inl ⟨by rfl, ?_⟩) (by assumption) (fun hTill => ?_)
            rotate_left
            · (intro w hSw; go_simp; try with_reducible rfl)
            (try simp only [Act.put, List.setIfInBounds_toArray, List.set_cons_zero, List.set_cons_succ])
            refine takeT 9 (v := ?_) rfl (by kernel_rfl) (by kernel_rfl) (by kernel_rfl) (by kernel_rfl) (by kernel_rfl) (by kernel_rfl) (fun _ _ _ h => h) (Or.inl ⟨by rfl, ?_⟩) (by assumption) (fun hTill => ?_)
            rotate_left
            · (intro w hSw; go_simp; try with_reducible rfl)
            (try simp only [Act.put, List.setIfInBounds_toArray, List.set_cons_zero, List.set_cons_succ])
            refine takeM 10 (v := ?_) rfl (by kernel_rfl) (by kernel_rfl) (by kernel_rfl) (by kernel_rfl) (fun _ _ _ h => h) (Or.inl ⟨by rfl, ?_⟩) (by assumption) (fun hTill => ?_)
            rotate_left
            · (intro w hSw; go_simp; try with_reducible rfl)
            (try simp only [Act.put, List.setIfInBounds_toArray, List.set_cons_zero, List.set_cons_succ])
            refine takeM 11 (v := ?_) rfl (by kernel_rfl) (by kernel_rfl) (by kernel_rfl) (by kernel_rfl) (fun _ _ _ h => h) (Or.inl ⟨by rfl, ?_⟩) (by assumption) (fun hTill => ?_)
            rotate_left
            · (intro w hSw; go_simp; try with_reducible rfl)
            (try simp only [Act.put, List.setIfInBounds_toArray, List.set_cons_zero, List.set_cons_succ])
            refine takeT 12 (v := ?_) rfl (by kernel_rfl) (by kernel_rfl) (by kernel_rfl) (by kernel_rfl) (by kernel_rfl) (by kernel_rfl) (fun _ _ _ h => h) (Or.inl ⟨by rfl, ?_⟩) (by assumption) (fun hTill => ?_)
            rotate_left
            · (intro w hSw; go_simp; try with_reducible rfl)
            (try simp only [Act.put, List.setIfInBounds_toArray, List.set_cons_zero, List.set_cons_succ])
            refine takeM 13 (v := ?_) rfl (by kernel_rfl) (by kernel_rfl) (by kernel_rfl) (by kernel_rfl) (fun _ _ _ h => h) (Or.inl ⟨by rfl, ?_⟩) (by assumption) (fun hTill => ?_)
            rotate_left
            · (intro w hSw; go_simp; try with_reducible rfl)
            (try simp only [Act.put, List.setIfInBounds_toArray, List.set_cons_zero, List.set_cons_succ])
            refine takeM 14 (v := ?_) rfl (by kernel_rfl) (by kernel_rfl) (by kernel_rfl) (by kernel_rfl) (fun _ _ _ h => h) (Or.inl ⟨by rfl, ?_⟩) (by assumption) (fun hTill => ?_)
            rotate_left
            · (intro w hSw; go_simp; try with_reducible rfl)
            (try simp only [Act.put, List.setIfInBounds_toArray, List.set_cons_zero, List.set_cons_succ])
            refine takeT 15 (v := ?_) rfl (by kernel_rfl) (by kernel_rfl) (by kernel_rfl) (by kernel_rfl) (by kernel_rfl) (by kernel_rfl) (fun _ _ _ h => h) (Or.inl ⟨by rfl, ?_⟩) (by assumption) (fun hTill => ?_)
            rotate_left
            · (intro w hSw; go_simp; try with_reducible rfl)
            (try simp only [Act.put, List.setIfInBounds_toArray, List.set_cons_zero, List.set_cons_succ])
            refine stepM 16 rfl (by kernel_rfl) (fun K hK => ?_)
            (go_simp; go_at_call 98; refine (quarter_any x0 x1 x2 x3 _).mono ?_; rintro e w5 ⟨⟨y0, y1, y2, y3, rfl⟩, hb5⟩; have h5 := blk_on (w := wr.drew) hGr hb5; have z5 := thawed h5; have y5 := (cell_of_block h5 3).trans h0)
            refine hK.out _ _ ?_ (fun hTill => ?_)
            · exact till_over (by kernel_rfl)
            clear hK K
            (try simp only [Act.put, List.setIfInBounds_toArray, List.set_cons_zero, List.set_cons_succ])
            refine takeM 17 (v := ?_) rfl (by kernel_rfl) (by kernel_rfl) (by kernel_rfl) (by kernel_rfl) (fun _ _ _ h => h) (Or.inl ⟨by rfl, ?_⟩) (by assumption) (fun hTill => ?_)
            rotate_left
            · (intro w hSw; go_simp; try with_reducible rfl)
            (try simp only [Act.put, List.setIfInBounds_toArray, List.set_cons_zero, List.set_cons_succ])
            refine takeM 18 (v := ?_) rfl (by kernel_rfl) (by kernel_rfl) (by kernel_rfl) (by kernel_rfl) (fun _ _ _ h => h) (Or.inl ⟨by rfl, ?_⟩) (by assumption) (fun hTill => ?_)
            rotate_left
            · (intro w hSw; go_simp; try with_reducible rfl)
            (try simp only [Act.put, List.setIfInBounds_toArray, List.set_cons_zero, List.set_cons_succ])
            refine takeM 19 (v := ?_) rfl (by kernel_rfl) (by kernel_rfl) (by kernel_rfl) (by kernel_rfl) (fun _ _ _ h => h) (Or.inl ⟨by rfl, ?_⟩) (by assumption) (fun hTill => ?_)
            rotate_left
            · (intro w hSw; go_simp; try with_reducible rfl)
            (try simp only [Act.put, List.setIfInBounds_toArray, List.set_cons_zero, List.set_cons_succ])
            refine takeM 20 (v := ?_) rfl (by kernel_rfl) (by kernel_rfl) (by kernel_rfl) (by kernel_rfl) (fun _ _ _ h => h) (Or.inl ⟨by rfl, ?_⟩) (by assumption) (fun hTill => ?_)
            rotate_left
            · (intro w hSw; go_simp; try with_reducible rfl)
            (try simp only [Act.put, List.setIfInBounds_toArray, List.set_cons_zero, List.set_cons_succ])
            refine takeM 21 (v := ?_) rfl (by kernel_rfl) (by kernel_rfl) (by kernel_rfl) (by kernel_rfl) (fun _ _ _ h => h) (Or.inl ⟨by rfl, ?_⟩) (by assumption) (fun hTill => ?_)
            rotate_left
            · (intro w hSw; go_simp; try with_reducible rfl)
            (try simp only [Act.put, List.setIfInBounds_toArray, List.set_cons_zero, List.set_cons_succ])
            refine takeM 22 (v := ?_) rfl (by kernel_rfl) (by kernel_rfl) (by kernel_rfl) (by kernel_rfl) (fun _ _ _ h => h) (Or.inl ⟨by rfl, ?_⟩) (by assumption) (fun hTill => ?_)
            rotate_left
            · (intro w hSw; go_simp; try with_reducible rfl)
            (try simp only [Act.put, List.setIfInBounds_toArray, List.set_cons_zero, List.set_cons_succ])
            refine stepM 23 rfl (by kernel_rfl) (fun K hK => ?_)
            go_simp
            refine hK.out _ _ ?_ (fun hTill => ?_)
            · exact till_over (by kernel_rfl)
            clear hK K
            (try simp only [Act.put, List.setIfInBounds_toArray, List.set_cons_zero, List.set_cons_succ])
            have s1 := set_cell (j := 3) h5 (.int .u32 y0); have z6 := thawed s1.blk; have y6 := (cell_of_block s1.blk 4).trans ((Array.getElem?_setIfInBounds_ne (by decide)).trans h1)
            refine takeM 24 (v := ?_) rfl (by kernel_rfl) (by kernel_rfl) (by kernel_rfl) (by kernel_rfl) (fun _ _ _ h => h) (Or.inl ⟨by rfl, ?_⟩) (by assumption) (fun hTill => ?_)
            rotate_left
            · (intro w hSw; go_simp; try with_reducible rfl)
            (try simp only [Act.put, List.setIfInBounds_toArray, List.set_cons_zero, List.set_cons_succ])
            refine stepM 25 rfl (by kernel_rfl) (fun K hK => ?_)
            go_simp
            refine hK.out _ _ ?_ (fun hTill => ?_)
            · exact till_over (by kernel_rfl)
            clear hK K
            (try simp only [Act.put, List.setIfInBounds_toArray, List.set_cons_zero, List.set_cons_succ])
            have s2 := set_cell (j := 4) s1.blk (.int .u32 y1); have z7 := thawed s2.blk; have y7 := (cell_of_block s2.blk 9).trans ((Array.getElem?_setIfInBounds_ne (by decide)).trans ((Array.getElem?_setIfInBounds_ne (by decide)).trans h2))
            refine takeM 26 (v := ?_) rfl (by kernel_rfl) (by kernel_rfl) (by kernel_rfl) (by kernel_rfl) (fun _ _ _ h => h) (Or.inl ⟨by rfl, ?_⟩) (by assumption) (fun hTill => ?_)
            rotate_left
            · (intro w hSw; go_simp; try with_reducible rfl)
            (try simp only [Act.put, List.setIfInBounds_toArray, List.set_cons_zero, List.set_cons_succ])
            refine stepM 27 rfl (by kernel_rfl) (fun K hK => ?_)
            go_simp
            refine hK.out _ _ ?_ (fun hTill => ?_)
            · exact till_over (by kernel_rfl)
            clear hK K
            (try simp only [Act.put, List.setIfInBounds_toArray, List.set_cons_zero, List.set_cons_succ])
            have s3 := set_cell (j := 9) s2.blk (.int .u32 y2); have z8 := thawed s3.blk; have y8 := (cell_of_block s3.blk 14).trans ((Array.getElem?_setIfInBounds_ne (by decide)).trans ((Array.getElem?_setIfInBounds_ne (by decide)).trans ((Array.getElem?_setIfInBounds_ne (by decide)).trans h3)))
            refine takeM 28 (v := ?_) rfl (by kernel_rfl) (by kernel_rfl) (by kernel_rfl) (by kernel_rfl) (fun _ _ _ h => h) (Or.inl ⟨by rfl, ?_⟩) (by assumption) (fun hTill => ?_)
            rotate_left
            · (intro w hSw; go_simp; try with_reducible rfl)
            (try simp only [Act.put, List.setIfInBounds_toArray, List.set_cons_zero, List.set_cons_succ])
            refine stepM 29 rfl (by kernel_rfl) (fun K hK => ?_)
            go_simp
            refine hK.out _ _ ?_ (fun hTill => ?_)
            · exact till_over (by kernel_rfl)
            clear hK K
            (try simp only [Act.put, List.setIfInBounds_toArray, List.set_cons_zero, List.set_cons_succ])
            have s4 := set_cell (j := 14) s3.blk (.int .u32 y3)
            refine doneM (by kernel_rfl) ?_ _
            refine NoPanic.normal ?_
            have hU4 := (((hUr.set 3 y0).set 4 y1).set 9 y2).set 14 y3
            have u4 := ((((hM.upto.drew.trans (upto_below hb5 (Nat.le_of_lt (block_lt (w := wr.drew) hGr)))).setCell 3 (.int .u32 y0)).setCell 4 (.int .u32 y1)).setCell 9 (.int .u32 y2)).setCell 14 (.int .u32 y3)
            have hM4 : Mixed G 160 w3 _ := ⟨⟨_, s4.blk, hU4⟩, u4⟩
            clear s1 s2 s3 s4 z5 z6 z7 z8 y5 y6 y7 y8 h0 h1 h2 h3 h5 c0 c1 c2 c3 hTill hGr hUr hU4 u4
            go_wp2
            go_roundw
            case rel =>
              exact ⟨4, by decide, rfl, hM4⟩
            case measure => show 4 - (4 : Int).toNat < 4 - (3 : Int).toNat; decide
          · go_wp2
            go_roundw
            case rel => exact ⟨2, by decide, rfl, hM⟩
            case measure => decide
        · go_wp2
          go_roundw
          case rel => exact ⟨j + 1, by omega, congrArg (Value.int .i64) (by omega), hM⟩
          case measure =>
            show 10 - ((j : Int) + 1).toNat < 10 - (j : Int).toNat
            omega
    · skip
      obtain ⟨cs4, m4, um4⟩ := hM.blk
      have hup := hM.upto
      clear hM one2
      obtain ⟨L4, rfl⟩ : ∃ L : List Value, cs4 = L.toArray := ⟨cs4.toList, by simp⟩
      have hL4 : L4.length = 16 := by simpa using um4.1
      have hi4 : (Try.prog.info? 160).map (·.size) = some L4.length := by rw [hL4]; kernel_rfl
      have r4 := range_of_block m4
      have f3 := hup.blk (by omega) e3
      have f4 := hup.blk (by omega) e4
      have hbr := hb3.trans (hup.bel.mono (by omega))
      clear hup e3 e4 hb3 m4 hi2
      rw [zeros64] at f3
      go_wp2_with (refine wpList_load_at (by rfl) 160 (.tmp 8) rfl G 0 (by rfl) L4 _ r4 Try.underlying160 rfl hi4 ?_)
      clear r4
      obtain ⟨v4, hv4⟩ : ∃ v, v = wr := ⟨_, rfl⟩
      rw [← hv4] at f3 f4 hbr ⊢
      clear hv4
      have ne34 : w.heap.size + 1 + 1 + 1 ≠ w.heap.size + 1 + 1 := by omega
      have hB : Bytes64 (w.heap.size + 1 + 1) 144 v4 v4 := ⟨⟨_, by simp, f3⟩, Upto.refl _ _⟩
      clear f3
      go_loopw [14, 15, 16, 81, 90] (fun _ _ _ i _ ws => ∃ k : Nat, k ≤ 16 ∧ i = .int .i64 k ∧ Bytes64 (w.heap.size + 1 + 1) 144 v4 ws) (fun _ _ _ i _ _ => 16 - (intOf i).toNat)
      case atStart => exact ⟨0, by omega, rfl, hB⟩
      case round =>
        clear hB
        obtain ⟨k, hk, rfl, hB⟩ := hrel
        by_cases hlt : k < 16
        · obtain ⟨x, hx⟩ := um4.2 k hlt
          obtain ⟨y, hy⟩ := u6.2 k hlt
          have hix := index_u32 L4.toArray k hlt _ hx
          have ca := (cell_of_block (hB.upto.blk ne34 f4) k).trans hy
          clear hy um4 u6
          have hdk : decide ((k : Int) < 16) = true := decide_eq_true (by omega)
          go_wp2_with fail
          go_loopw [16, 90] (fun _ i ws => ∃ q : Nat, q ≤ 4 ∧ i = .int .i64 q ∧ Bytes64 (w.heap.size + 1 + 1) 144 v4 ws) (fun _ i _ => 4 - (intOf i).toNat)
          case atStart => exact ⟨0, by omega, rfl, hB⟩
          case round =>
            clear hB ca
            obtain ⟨q, hq, rfl, hB⟩ := hrel
            by_cases hql : q < 4
            · obtain ⟨l, hl, hg⟩ := hB.blk
              have hw1 : IntKind.i64.wrap (4 * (k : Int)) = 4 * (k : Int) := IntWalk.i64_in _ (by omega)
              have hw2 : IntKind.i64.wrap (4 * (k : Int) + (q : Int)) = 4 * (k : Int) + (q : Int) := IntWalk.i64_in _ (by omega)
              have hw3 : IntKind.i64.wrap (8 * (q : Int)) = 8 * (q : Int) := IntWalk.i64_in _ (by omega)
              have i3 : (0 : Int) ≤ 4 * (k : Int) + (q : Int) := by omega
              have i4 : 4 * (k : Int) + (q : Int) < 64 := by omega
              have e4 : (4 * (k : Int) + (q : Int)).toNat = 4 * k + q := by omega
              have hn : 4 * k + q < l.length := by omega
              have hcl := (cell_of_block hg (4 * k + q)).trans (show (l.map bv).toArray[4 * k + q]? = some (bv l[4 * k + q]) by simp [hn])
              have hz := thawed hg
              have hdq : decide ((q : Int) < 4) = true := decide_eq_true (by omega)
              go_wp2_with fail
              go_roundw
              case rel => exact ⟨q + 1, by omega, congrArg (Value.int .i64) (by omega), hB.setw _ _⟩
              case measure =>
                show 4 - ((q : Int) + 1).toNat < 4 - (q : Int).toNat
                omega
            · go_wp2
              go_roundw
              case rel => exact ⟨k + 1, by omega, congrArg (Value.int .i64) (by omega), hB⟩
              case measure =>
                show 16 - ((k : Int) + 1).toNat < 16 - (k : Int).toNat
                omega
        · obtain ⟨l, hl, hg⟩ := hB.blk
          have hb5 := hbr.trans (hB.upto.bel.mono (by omega))
          have hil : (Try.prog.info? 144).map (·.size) = some (l.map bv).length := by rw [List.length_map, hl]; kernel_rfl
          have hi64 : (Try.prog.info? 144).map (·.size) = some 64 := by kernel_rfl
          have hls : (l.map bv).toArray.size = 64 := by simpa using hl
          have hone : (l.map bv).toArray.all (·.oneCell') = true := by
            rw [Array.all_eq_true]
            intro i hi
            simp [bv]
            rfl
          have rl := range_of_block hg
          clear hB f4 um4 hL4 hi4 hL2 u6
          go_wp2_with (first
            | refine wpList_load_at (by rfl) 144 (.tmp 6) rfl (w.heap.size + 1 + 1) 0 (by rfl) (l.map bv) _ rl Try.underlying144 rfl hil ?_
            | (refine wpList_lay (by rfl) 144 (.tmp 6) (.tmp 105) rfl (w.heap.size + 1 + 1) (l.map bv).toArray (by rfl) (by rfl) 144 _ hg 64 hi64 hls hls hone ?_; intro w9 hL9))
          try simp only [Exit.inBlock, Exit.then]
          refine bodyPost_ret (results_cell_row rfl _ _ (w.heap.size + 1 + 1) _ _ _ _ rfl hL9.blk Try.underlying144 rfl (by rw [hls]; exact hi64)) rfl ?_
          exact ⟨⟨l, hl, rfl⟩, hb5.trans (hL9.bel.mono (by omega))⟩
end Go.Proofs.Ytdiokmaomglefaa
