/- A source that is wiped: the program's, walked. -/
import Derived.Test.YtkllljgnpcmojaaWipe
namespace Go.Proofs.Ytkllljgnpcmojaa
open Go Go.RowKit

/-- Two blocks, and what follows. -/
theorem two_blocks {w w2 : World} {A Z : Obj} (hb : Below ((w.alloc A).alloc Z).heap.size ((w.alloc A).alloc Z) w2) :
    w2.heap[w.heap.size]? = some A ∧ w2.heap[w.heap.size + 1]? = some Z ∧ Below w.heap.size w w2 ∧ w.heap.size + 2 ≤ w2.heap.size := by
  have hs := hb.size
  simp only [World.size_alloc] at hs
  refine ⟨?_, ?_, ?_, by omega⟩
  · rw [hb.block _ (by simp; omega), Below.heap_alloc _ _ _ (by simp), heap_alloc_new]
  · rw [hb.block _ (by simp)]
    have := heap_alloc_new (w.alloc A) Z
    simpa using this
  · exact (((Below.refl _ w).alloc (Nat.le_refl _) _).alloc (by simp) _).trans (hb.mono (by simp; omega))

theorem Ks.setRow {w : World} {b off n cap : Nat} {l : List Key} (h : Ks w (.slice (some ⟨b, off, none⟩) n cap) l) {g : Nat} (hg : b ≠ g) (cs : Array Value) : Ks (w.setRow g cs) (.slice (some ⟨b, off, none⟩) n cap) l := by
  obtain ⟨a', cap', e, h0, h1, h2, h3, hc⟩ := h
  cases e
  refine ⟨_, _, rfl, h0, h1, h2, h3, fun hne => ?_⟩
  obtain ⟨b', off', ha, hb, hcell⟩ := hc hne
  cases ha
  exact ⟨_, _, rfl, by simpa using hb, fun j k hj i v hi => (cell_setRow_other w g cs _ hg).trans (hcell j k hj i v hi)⟩
set_option maxHeartbeats 1000000 in
theorem wipe_any (a : Option Addr) (n cap : Nat) (l : List Key) (u : Int) (w : World) (h : Ks w (.slice a n cap) l) (hl : l.length ≤ 1000000) :
    Calls Try.prog 14 #[.agg #[.slice a n cap, .int .i64 u]] w fun e w' => (∃ a' cap', e = .returned (.agg #[.slice a' l.length cap', .int .i64 u]) ∧ Ks w' (.slice a' l.length cap') (wiped l u)) ∧ Below w.heap.size w w' := by
  obtain ⟨rfl, hl1, hl2, hl3⟩ := h.len
  have hun := un_le u l.length
  have hk0 := h.below (((Below.refl _ w).alloc (Nat.le_refl _) (.cells #[.slice a l.length cap, .int .i64 u] 24)).alloc (by simp) (.cells #[.slice none 0 0, .int .i64 0] 24))
  clear h
  go_enter Try.func14, Try.ntmps14
  go_wp2_with fail
  refine (clone_any _ _ _ l _ hk0 hl).mono ?_
  rintro e w2 ⟨⟨v, rfl, hown⟩, hb2⟩
  obtain ⟨hA, hY, hB2, hs2⟩ := two_blocks hb2
  clear hk0 hb2
  have hown2 := owns_base hown (B' := w.heap.size + 2) (by simp)
  clear hown
  obtain ⟨B, hB⟩ : ∃ B, w.heap.size = B := ⟨_, rfl⟩
  rw [hB] at hA hY hB2 hs2 hown2
  rw [hB]
  have HB := Lib.hid hB
  clear hB
  have c0 : w2.cell? ⟨B, 0, none⟩ = some (.slice a l.length cap) := (cell_of_block hA 0).trans rfl
  have c1 : w2.cell? ⟨B, 1, none⟩ = some (.int .i64 u) := (cell_of_block hA 1).trans rfl
  go_wp2_with fail
  refine (used_any _ _ _ _ _).mono ?_
  rintro e w3 ⟨rfl, hb3⟩
  have hA3 := (hb3.block _ (block_lt hA)).trans hA
  have hY3 := (hb3.block _ (block_lt hY)).trans hY
  have hB3 := hB2.trans (hb3.mono (by omega : B ≤ _))
  have hs3 := hb3.size
  have hown3 := owns_below hown2 hb3
  clear c0 c1 hown2 hb3 hA hY
  have hform := hown3.2
  rcases hform with ⟨rfl, h0⟩ | ⟨g, cp, cur, rfl, hgB, hh, hcn, hcm, hsz, _⟩
  · obtain rfl : l = [] := List.eq_nil_of_length_eq_zero h0
    have hu0 : un u ([] : List Key).length = 0 := by simpa using hun
    have Hw : Hid (wiped [] u = []) := List.eq_nil_of_length_eq_zero (by rw [wiped_length]; rfl)
    have hcl : ∀ (w : World) (ty : TypeId), (Builtin.clear_ #[22] ty #[.slice none 0 0]).run Try.prog w = .ok (.tuple #[]) w := fun w ty => by simp [Builtin.clear_, run_underlying Try.underlying22]
    rw [hu0]
    clear hown3
    have hY4 : w3.heap[B + 1]? = some (.cells #[.slice none 0 0, .int .i64 0] 24 (0, 0)) := hY3
    have f4 : w3.cell? ⟨B, 1, none⟩ = some (.int .i64 u) := (cell_of_block hA3 1).trans rfl
    go_wp2_with (refine wpList_store_row rfl 24 _ _ rfl (B + 1) #[(.slice none 0 0), .int .i64 u] rfl rfl 24 _ hY4 info_src rfl (src_one _ _ _ _) ?_)
    have h2 : (w3.setRow (B + 1) #[(.slice none 0 0), .int .i64 u]).heap[B + 1]? = some (.cells #[(.slice none 0 0), .int .i64 u] 24 (0, 0)) := setRow_heap _ _ _ _ _ _ hY4
    (try simp only [Exit.inBlock, Exit.then])
    refine bodyPost_ret (results_cell_row rfl _ _ (B + 1) _ _ _ _ rfl h2 Try.underlying24 rfl info_src) rfl ?_
    rw [HB.out]
    exact ⟨⟨none, 0, rfl, Hw.out.symm ▸ ks_nil _⟩, below_setRow hB3 (by omega) _⟩
  · have hk := kept_cells hown3 hun hl3
    have hcl := fun ty c => run_clear_keys w3 ty g (un u l.length) c cp cur hh hsz (by omega)
    have hgs : g < w3.heap.size := block_lt hh
    have hb4 : Below B w (w3.setCells g 0 (kcs (List.replicate (un u l.length) k0))) := below_setCells (by omega) _ _ _ hB3
    have hY5 : ((w3.setCells g 0 (kcs (List.replicate (un u l.length) k0)))).heap[B + 1]? = some (.cells #[.slice none 0 0, .int .i64 0] 24 (0, 0)) := by
      have := (below_setCells (B := B + 2) (a := w3) (g := g) hgB (kcs (List.replicate (un u l.length) k0)) 0 w3 (Below.refl _ _)).block (B + 1) (by omega)
      exact this.trans hY3
    have hA5 : ((w3.setCells g 0 (kcs (List.replicate (un u l.length) k0)))).heap[B]? = some (.cells #[.slice a l.length cap, .int .i64 u] 24 (0, 0)) := by
      have := (below_setCells (B := B + 2) (a := w3) (g := g) hgB (kcs (List.replicate (un u l.length) k0)) 0 w3 (Below.refl _ _)).block B (by omega)
      exact this.trans hA3
    have i1 : (0 : Int) ≤ (un u l.length : Int) := by omega
    have i2 : (un u l.length : Int) ≤ (cp : Int) := by omega
    have hs4 : ((w3.setCells g 0 (kcs (List.replicate (un u l.length) k0)))).heap.size = w3.heap.size := size_setCells _ _ _ _
    clear hown3
    obtain ⟨w4, hw4⟩ : ∃ w4, (w3.setCells g 0 (kcs (List.replicate (un u l.length) k0))) = w4 := ⟨_, rfl⟩
    rw [hw4] at hk hb4 hY5 hA5 hs4
    simp only [hw4] at hcl
    clear hw4
    have hY4 : w4.heap[B + 1]? = some (.cells #[.slice none 0 0, .int .i64 0] 24 (0, 0)) := hY5
    have f4 : w4.cell? ⟨B, 1, none⟩ = some (.int .i64 u) := (cell_of_block hA5 1).trans rfl
    go_wp2_with (refine wpList_store_row rfl 24 _ _ rfl (B + 1) #[(.slice (some ⟨g, 0, none⟩) l.length cp), .int .i64 u] rfl rfl 24 _ hY4 info_src rfl (src_one _ _ _ _) ?_)
    have h2 : (w4.setRow (B + 1) #[(.slice (some ⟨g, 0, none⟩) l.length cp), .int .i64 u]).heap[B + 1]? = some (.cells #[(.slice (some ⟨g, 0, none⟩) l.length cp), .int .i64 u] 24 (0, 0)) := setRow_heap _ _ _ _ _ _ hY4
    (try simp only [Exit.inBlock, Exit.then])
    refine bodyPost_ret (results_cell_row rfl _ _ (B + 1) _ _ _ _ rfl h2 Try.underlying24 rfl info_src) rfl ?_
    rw [HB.out]
    refine ⟨⟨_, _, rfl, ?_⟩, below_setRow hb4 (by omega) _⟩
    exact hk.setRow (by omega) _
end Go.Proofs.Ytkllljgnpcmojaa
