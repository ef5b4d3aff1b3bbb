import Derived.Test.YtdiokmaomglefaaMA
import Derived.Test.YtdiokmaomglefaaMR
/- Some numbers of 32 bits: math/bits.RotateLeft32, chacha.Quarter. -/
namespace Go.Proofs.Ytdiokmaomglefaa
open Go Go.RowKit

theorem rot_any (x k : Int) (hk : k = 16 ∨ k = 12 ∨ k = 8 ∨ k = 7) (w : World) :
    Calls Try.prog 107 #[.int .u32 x, .int .i64 k] w fun e w' => (∃ y, e = .returned (.int .u32 y)) ∧ Below w.heap.size w w' := by
  have h1 : bits .and .u64 16 31 = 16 := by decide +kernel
  have h2 : bits .and .u64 12 31 = 12 := by decide +kernel
  have h3 : bits .and .u64 8 31 = 8 := by decide +kernel
  have h4 : bits .and .u64 7 31 = 7 := by decide +kernel
  rcases hk with rfl | rfl | rfl | rfl
  all_goals
    go_enter Try.func107, Try.ntmps107
    go_wp2_with fail
    go_ret
    exact ⟨⟨_, rfl⟩, Below.refl _ _⟩
theorem index_pairs0 (w : World) : (Instr.index 178 (.agg #[.int .i64 16, .int .i64 12, .int .i64 8, .int .i64 7]) (.int .i64 0)).run Try.prog w = .ok (.agg #[.int .i64 16, .int .i64 12]) w := by
  simp [Instr.index, go_sem, Result.andThen]
theorem index_pairs1 (w : World) : (Instr.index 178 (.agg #[.int .i64 16, .int .i64 12, .int .i64 8, .int .i64 7]) (.int .i64 1)).run Try.prog w = .ok (.agg #[.int .i64 8, .int .i64 7]) w := by
  simp [Instr.index, go_sem, Result.andThen]
set_option maxRecDepth 100000 in
set_option maxHeartbeats 1000000 in
theorem quarter_any (a b c d : Int) (w : World) :
    Calls Try.prog 98 #[.int .u32 a, .int .u32 b, .int .u32 c, .int .u32 d] w fun e w' => (∃ a' b' c' d' : Int, e = .returned (.tuple #[.int .u32 a', .int .u32 b', .int .u32 c', .int .u32 d'])) ∧ Below w.heap.size w w' := by
  go_enter Try.func98, Try.ntmps98
  go_wp2_with fail
  go_loopw [0, 1, 2, 3, 13, 17] (fun a b c d _ i wr => ∃ (j p q r s : Int), (j = 0 ∨ j = 1 ∨ j = 2) ∧ a = .int .u32 p ∧ b = .int .u32 q ∧ c = .int .u32 r ∧ d = .int .u32 s ∧ i = .int .i64 j ∧ Below w.heap.size w wr) (fun _ _ _ _ _ i _ => 2 - (intOf i).toNat)
  case atStart => exact ⟨0, _, _, _, _, by omega, rfl, rfl, rfl, rfl, rfl, Below.refl _ _⟩
  case round =>
    obtain ⟨j, p, q, r, s, hj, rfl, rfl, rfl, rfl, rfl, hbr⟩ := hrel
    rcases hj with rfl | rfl | rfl
    · have hx := index_pairs0
      go_wp2_with fail
      refine (rot_any _ 16 (by decide) _).mono ?_
      rintro e w2 ⟨⟨y2, rfl⟩, hb2⟩
      have hR2 := blk_on (heap_alloc_new wr (.cells #[.int .i64 16, .int .i64 12] 147)) hb2
      have c1 : w2.cell? ⟨wr.heap.size, 1, none⟩ = some (.int .i64 12) := (cell_of_block hR2 1).trans rfl
      have hb02 : Below wr.heap.size wr w2 := ((Below.refl _ wr).alloc (Nat.le_refl _) _).trans (hb2.mono (by simp))
      clear hb2 hR2
      go_wp2_with fail
      refine (rot_any _ 12 (by decide) _).mono ?_
      rintro e w3 ⟨⟨y3, rfl⟩, hb3⟩
      have hb03 := hbr.trans ((hb02.trans (hb3.mono hb02.size)).mono hbr.size)
      clear c1 hb02 hb3
      go_wp2
      go_roundw
      case rel => exact ⟨1, _, _, _, _, by decide, rfl, rfl, rfl, rfl, rfl, hb03⟩
      case measure => decide
    · have hx := index_pairs1
      go_wp2_with fail
      refine (rot_any _ 8 (by decide) _).mono ?_
      rintro e w2 ⟨⟨y2, rfl⟩, hb2⟩
      have hR2 := blk_on (heap_alloc_new wr (.cells #[.int .i64 8, .int .i64 7] 147)) hb2
      have c1 : w2.cell? ⟨wr.heap.size, 1, none⟩ = some (.int .i64 7) := (cell_of_block hR2 1).trans rfl
      have hb02 : Below wr.heap.size wr w2 := ((Below.refl _ wr).alloc (Nat.le_refl _) _).trans (hb2.mono (by simp))
      clear hb2 hR2
      go_wp2_with fail
      refine (rot_any _ 7 (by decide) _).mono ?_
      rintro e w3 ⟨⟨y3, rfl⟩, hb3⟩
      have hb03 := hbr.trans ((hb02.trans (hb3.mono hb02.size)).mono hbr.size)
      clear c1 hb02 hb3
      go_wp2
      go_roundw
      case rel => exact ⟨2, _, _, _, _, by decide, rfl, rfl, rfl, rfl, rfl, hb03⟩
      case measure => decide
    · go_wp2
      (try simp only [Exit.inBlock, Exit.then])
      refine bodyPost_ret (results_tmp4 rfl _ _ _) rfl ?_
      exact ⟨⟨_, _, _, _, rfl⟩, hbr⟩
end Go.Proofs.Ytdiokmaomglefaa
/- Numbers of 32 bits written into an array: chacha.numbers. -/
namespace Go.Proofs.Ytdiokmaomglefaa
open Go Go.RowKit

theorem Upto.setCell {D : Nat} {a w : World} (h : Upto D a w) (j : Nat) (u : Value) : Upto D a (w.setCell ⟨D, j, none⟩ u) :=
  ⟨h.bel.setCell (p := ⟨D, j, none⟩) (Nat.le_refl _) _, fun k hk hl => (heap_setCell_other w ⟨D, j, none⟩ k u (by simpa using hk)).trans (h.rest k hk hl)⟩
/-- An array of numbers of 32 bits, whatever they are. -/
def U32s (cs : Array Value) (n : Nat) : Prop := cs.size = n ∧ ∀ j, j < n → ∃ x : Int, cs[j]? = some (.int .u32 x)
theorem U32s.set {cs : Array Value} {n : Nat} (h : U32s cs n) (j : Nat) (x : Int) : U32s (cs.setIfInBounds j (.int .u32 x)) n := by
  refine ⟨by simpa using h.1, fun k hk => ?_⟩
  by_cases e : j = k
  · subst e
    exact ⟨x, by rw [Array.getElem?_setIfInBounds_self_of_lt]; rw [h.1]; exact hk⟩
  · obtain ⟨y, hy⟩ := h.2 k hk
    exact ⟨y, by rw [Array.getElem?_setIfInBounds_ne e]; exact hy⟩
set_option linter.unusedSimpArgs false in
set_option maxHeartbeats 2000000 in
theorem numbers_any (G o m c : Nat) (hm : 0 < m) (h16 : o + m ≤ 16) (cs : Array Value) (t : TypeId) (b off n cap : Nat) (l : List UInt8) (hl : 4 * m ≤ l.length) (hbG : b ≠ G) (w : World) (hG : w.heap[G]? = some (.cells cs t (0, 0))) (hU : U32s cs 16) (h : Bt w (.slice (some ⟨b, off, none⟩) n cap) l) :
    Calls Try.prog 97 #[.slice (some ⟨G, o, none⟩) m c, .slice (some ⟨b, off, none⟩) n cap] w fun e w' => e = .returned (.tuple #[]) ∧ (∃ cs', w'.heap[G]? = some (.cells cs' t (0, 0)) ∧ U32s cs' 16) ∧ Upto G w w' := by
  obtain ⟨rfl, p1, p2, p3⟩ := h.len
  go_enter Try.func97, Try.ntmps97
  go_wp2_with fail
  go_loopw [4, 5, 8, 11] (fun _ _ i _ wr => ∃ (j : Nat) (cs' : Array Value), j ≤ m ∧ i = .int .i64 j ∧ wr.heap[G]? = some (.cells cs' t (0, 0)) ∧ U32s cs' 16 ∧ Upto G w wr) (fun _ _ i _ _ => m - (intOf i).toNat)
  case atStart => exact ⟨0, cs, by omega, rfl, hG, hU, Upto.refl _ _⟩
  case round =>
    obtain ⟨j, cs1, hj, rfl, hGr, hUr, hur⟩ := hrel
    by_cases hlt : j < m
    · have m16 : m ≤ 16 := by omega
      have j16 : j ≤ 16 := by omega
      go_wp2_with fail
      go_loopw [5, 11] (fun _ k wr2 => ∃ (q : Nat) (cs' : Array Value), q ≤ 4 ∧ k = .int .i64 q ∧ wr2.heap[G]? = some (.cells cs' t (0, 0)) ∧ U32s cs' 16 ∧ Upto G w wr2) (fun _ k _ => 4 - (intOf k).toNat)
      case atStart => exact ⟨0, cs1, by omega, rfl, hGr, hUr, hur⟩
      case round =>
        clear hGr hUr hur
        obtain ⟨q, cs2, hq, rfl, hGr, hUr, hur⟩ := hrel
        by_cases hql : q < 4
        · obtain ⟨x, hx⟩ := hUr.2 (o + j) (by omega)
          have hcx : wr.drew.cell? ⟨G, o + j, none⟩ = some (.int .u32 x) := (cell_of_block (w := wr.drew) hGr (o + j)).trans hx
          have hfz : wr.drew.frozen? ⟨G, o + j, none⟩ = false := thawed (w := wr.drew) hGr (o + j)
          have hby : w.cell? ⟨b, off + (4 * j + q), none⟩ = some (.int .u8 (l[4 * j + q]'(by omega)).toNat) := h.at (4 * j + q) (by omega)
          have gby : ∀ w', Upto G wr w' → w'.cell? ⟨b, off + (4 * j + q), none⟩ = some (.int .u8 (l[4 * j + q]'(by omega)).toNat) := fun w' hu => hu.cell hbG (hur.cell hbG hby)
          generalize (l[4 * j + q]'(by omega)).toNat = y at *
          have i1 : (0 : Int) ≤ (j : Int) := by omega
          have i2 : (j : Int) < (m : Int) := by omega
          have i3 : (0 : Int) ≤ 4 * (j : Int) + (q : Int) := by omega
          have i4 : 4 * (j : Int) + (q : Int) < (l.length : Int) := by omega
          have q4 : q ≤ 4 := by omega
          have e4 : (4 * (j : Int) + (q : Int)).toNat = 4 * j + q := by omega
          have hw1 : IntKind.i64.wrap (4 * (j : Int)) = 4 * (j : Int) := IntWalk.i64_in _ (by omega)
          have hw2 : IntKind.i64.wrap (4 * (j : Int) + (q : Int)) = 4 * (j : Int) + (q : Int) := IntWalk.i64_in _ (by omega)
          have hw3 : IntKind.i64.wrap (8 * (q : Int)) = 8 * (q : Int) := IntWalk.i64_in _ (by omega)
          obtain ⟨z, hsh⟩ : ∃ z, Op.shift BinOp.shl IntKind.u32 (IntKind.u32.wrap (y : Int)) IntKind.i64 (8 * (q : Int)) = pure (.int .u32 z) := by
            unfold Op.shift
            rw [if_neg (by omega)]
            exact ⟨_, rfl⟩
          clear hx h hby
          go_wp2_with fail
          refine wp_region_noPanic ?_
          refine wp_region_held_drew (S := (fun w' => Upto G wr w')) (by kernel_rfl) ?_ (fun hHeld => ?_)
          · exact (Upto.refl G wr).drew
          refine takeL 0 (v := ?_) rfl (by kernel_rfl) (by kernel_rfl) (by kernel_rfl) (fun _ _ _ h => h) (Or.inl ⟨by rfl, ?_⟩) (by assumption) ?_
          rotate_left
          · (intro w hSw; go_simp; try with_reducible rfl)
          (try simp only [Act.put, List.setIfInBounds_toArray, List.set_cons_zero, List.set_cons_succ])
          refine takeL 1 (v := ?_) rfl (by kernel_rfl) (by kernel_rfl) (by kernel_rfl) (fun _ _ _ h => h) (Or.inl ⟨by rfl, ?_⟩) (by assumption) ?_
          rotate_left
          · (intro w hSw; go_simp; try with_reducible rfl)
          (try simp only [Act.put, List.setIfInBounds_toArray, List.set_cons_zero, List.set_cons_succ])
          refine takeL 2 (v := ?_) rfl (by kernel_rfl) (by kernel_rfl) (by kernel_rfl) (fun _ _ _ h => h) (Or.inl ⟨by rfl, ?_⟩) (by assumption) ?_
          rotate_left
          · (intro w hSw; go_simp; try with_reducible rfl)
          (try simp only [Act.put, List.setIfInBounds_toArray, List.set_cons_zero, List.set_cons_succ])
          refine takeL 4 (v := ?_) rfl (by kernel_rfl) (by kernel_rfl) (by kernel_rfl) (fun _ _ _ h => h) (Or.inl ⟨by rfl, ?_⟩) (by assumption) ?_
          rotate_left
          · (intro w hSw; go_simp; try with_reducible rfl)
          (try simp only [Act.put, List.setIfInBounds_toArray, List.set_cons_zero, List.set_cons_succ])
          refine takeL 5 (v := ?_) rfl (by kernel_rfl) (by kernel_rfl) (by kernel_rfl) (fun _ _ _ h => h) (Or.inl ⟨by rfl, ?_⟩) (by assumption) ?_
          rotate_left
          · (intro w hSw; go_simp; try with_reducible rfl)
          (try simp only [Act.put, List.setIfInBounds_toArray, List.set_cons_zero, List.set_cons_succ])
          refine takeL 6 (v := ?_) rfl (by kernel_rfl) (by kernel_rfl) (by kernel_rfl) (fun _ _ _ h => h) (Or.inl ⟨by rfl, ?_⟩) (by assumption) ?_
          rotate_left
          · (intro w hSw; go_simp; try with_reducible rfl)
          (try simp only [Act.put, List.setIfInBounds_toArray, List.set_cons_zero, List.set_cons_succ])
          refine takeL 7 (v := ?_) rfl (by kernel_rfl) (by kernel_rfl) (by kernel_rfl) (fun _ _ _ h => h) (Or.inl ⟨by rfl, ?_⟩) (by assumption) ?_
          rotate_left
          · (intro w hSw; go_simp; try with_reducible rfl)
          (try simp only [Act.put, List.setIfInBounds_toArray, List.set_cons_zero, List.set_cons_succ])
          refine takeL 8 (v := ?_) rfl (by kernel_rfl) (by kernel_rfl) (by kernel_rfl) (fun _ _ _ h => h) (Or.inl ⟨by rfl, ?_⟩) (by assumption) ?_
          rotate_left
          · (intro w hSw; go_simp; try with_reducible rfl)
          (try simp only [Act.put, List.setIfInBounds_toArray, List.set_cons_zero, List.set_cons_succ])
          refine takeL 9 (v := ?_) rfl (by kernel_rfl) (by kernel_rfl) (by kernel_rfl) (fun _ _ _ h => h) (Or.inl ⟨by rfl, ?_⟩) (by assumption) ?_
          rotate_left
          · (intro w hSw; go_simp; try with_reducible rfl)
          (try simp only [Act.put, List.setIfInBounds_toArray, List.set_cons_zero, List.set_cons_succ])
          refine takeL 10 (v := ?_) rfl (by kernel_rfl) (by kernel_rfl) (by kernel_rfl) (fun _ _ _ h => h) (Or.inl ⟨by rfl, ?_⟩) (by assumption) ?_
          rotate_left
          · (intro w hSw; go_simp; try with_reducible rfl)
          (try simp only [Act.put, List.setIfInBounds_toArray, List.set_cons_zero, List.set_cons_succ])
          refine takeL 11 (v := ?_) rfl (by kernel_rfl) (by kernel_rfl) (by kernel_rfl) (fun _ _ _ h => h) (Or.inl ⟨by rfl, ?_⟩) (by assumption) ?_
          rotate_left
          · (intro w hSw; go_simp; try with_reducible rfl)
          (try simp only [Act.put, List.setIfInBounds_toArray, List.set_cons_zero, List.set_cons_succ])
          refine takeL 12 (v := ?_) rfl (by kernel_rfl) (by kernel_rfl) (by kernel_rfl) (fun _ _ _ h => h) (Or.inl ⟨by rfl, ?_⟩) (by assumption) ?_
          rotate_left
          · (intro w hSw; go_simp; try with_reducible rfl)
          (try simp only [Act.put, List.setIfInBounds_toArray, List.set_cons_zero, List.set_cons_succ])
          refine takeL 13 (v := ?_) rfl (by kernel_rfl) (by kernel_rfl) (by kernel_rfl) (fun _ _ _ h => h) (Or.inl ⟨by rfl, ?_⟩) (by assumption) ?_
          rotate_left
          · (intro w hSw; go_simp; try with_reducible rfl)
          (try simp only [Act.put, List.setIfInBounds_toArray, List.set_cons_zero, List.set_cons_succ])
          refine takeL 14 (v := ?_) rfl (by kernel_rfl) (by kernel_rfl) (by kernel_rfl) (fun _ _ _ h => h) (Or.inl ⟨by rfl, ?_⟩) (by assumption) ?_
          rotate_left
          · (intro w hSw; go_simp; try with_reducible rfl)
          (try simp only [Act.put, List.setIfInBounds_toArray, List.set_cons_zero, List.set_cons_succ])
          refine stepL 3 rfl (by kernel_rfl) (fun K hK => ?_)
          go_simp
          refine hK.out _ _ ?_ (fun hHeld => ?_)
          · assumption
          clear hK K
          (try simp only [Act.put, List.setIfInBounds_toArray, List.set_cons_zero, List.set_cons_succ])
          refine takeL 15 (v := ?_) rfl (by kernel_rfl) (by kernel_rfl) (by kernel_rfl) (fun _ _ _ h => h) (Or.inl ⟨by rfl, ?_⟩) (by assumption) ?_
          rotate_left
          · (intro w hSw; go_simp; try with_reducible rfl)
          (try simp only [Act.put, List.setIfInBounds_toArray, List.set_cons_zero, List.set_cons_succ])
          refine takeL 16 (v := ?_) rfl (by kernel_rfl) (by kernel_rfl) (by kernel_rfl) (fun _ _ _ h => h) (Or.inl ⟨by rfl, ?_⟩) (by assumption) ?_
          rotate_left
          · (intro w hSw; go_simp; try with_reducible rfl)
          (try simp only [Act.put, List.setIfInBounds_toArray, List.set_cons_zero, List.set_cons_succ])
          refine stepL 17 rfl (by kernel_rfl) (fun K hK => ?_)
          go_simp
          refine hK.out _ _ ?_ (fun hHeld => ?_)
          · exact (Upto.refl G wr).drew.setCell _ _
          clear hK K
          (try simp only [Act.put, List.setIfInBounds_toArray, List.set_cons_zero, List.set_cons_succ])
          refine wpAnyH_done (by kernel_rfl) ?_ _
          refine NoPanic.normal ?_
          clear gby hsh
          go_wp2
          go_roundw
          case rel => exact ⟨q + 1, _, by omega, congrArg (Value.int .i64) (by omega), (set_cell hGr _).blk, hUr.set _ _, (hur.setCell _ _).drew⟩
          case measure =>
            show 4 - ((q : Int) + 1).toNat < 4 - (q : Int).toNat
            omega
        · clear h
          go_wp2
          go_roundw
          case rel => exact ⟨j + 1, cs2, by omega, congrArg (Value.int .i64) (by omega), hGr, hUr, hur⟩
          case measure =>
            show m - ((j : Int) + 1).toNat < m - (j : Int).toNat
            omega
    · clear h
      go_wp2
      try simp only [Exit.inBlock, Exit.then]
      refine bodyPost_end (results_none rfl _ _ _) rfl ?_
      exact ⟨rfl, ⟨cs1, hGr, hUr⟩, hur⟩
end Go.Proofs.Ytdiokmaomglefaa
