import Derived.Test.YtdiokmaomglefaaMA
import Derived.Test.YtdiokmaomglefaaShelf
/- Zones: takes, filled. -/
namespace Go.Proofs.Ytdiokmaomglefaa
open Go Go.RowKit

/-- A zone's value. -/
def zv (st : Int) (v : Value) (lasts : Int) : Value := .agg #[.int .i64 st, v, .int .i64 lasts]
theorem takes_any (st lasts : Int) (a : Option Addr) (n cap : Nat) (w : World) :
    Calls Try.prog 87 #[zv st (.slice a n cap) lasts] w fun e w' => e = .returned (.bool (decide (st = 0 ∨ st = 1))) ∧ Below w.heap.size w w' := by
  unfold zv
  go_enter Try.func87, Try.ntmps87
  have hb : Below w.heap.size w (w.alloc (.cells #[.int .i64 st, .slice a n cap, .int .i64 lasts] 52)) := (Below.refl _ w).alloc (Nat.le_refl _) _
  by_cases h0 : st = 0
  · subst h0
    go_wp2
    go_ret
    exact ⟨rfl, hb⟩
  · by_cases h1 : st = 1
    · subst h1
      go_wp2
      go_ret
      exact ⟨rfl, hb⟩
    · have hd : decide (st = 0 ∨ st = 1) = false := by simp [h0, h1]
      rw [hd]
      go_wp2
      go_ret
      exact ⟨rfl, hb⟩
set_option maxHeartbeats 1000000 in
theorem filled_any (st lasts size : Int) (a : Option Addr) (n cap : Nat) (s2 : Int) (hs : s2 = if n = 0 then 0 else if (n : Int) = size then 2 else 1) (w : World) :
    Calls Try.prog 88 #[zv st (.slice a n cap) lasts, .int .i64 size] w fun e w' => e = .returned (zv s2 (.slice a n cap) lasts) ∧ Below w.heap.size w w' := by
  unfold zv
  go_enter Try.func88, Try.ntmps88
  by_cases h0 : n = 0
  · subst h0
    rw [if_pos rfl] at hs
    subst hs
    go_wp2
    refine bodyPost_ret (results_cell_row rfl _ _ (w.heap.size + 1) _ _ _ _ rfl (heap_alloc2_new w _ _) Try.underlying52 rfl (by kernel_rfl)) rfl ?_
    exact ⟨rfl, ((Below.refl _ w).alloc (Nat.le_refl _) _).alloc (by simp) _⟩
  · rw [if_neg h0] at hs
    have d0 : decide ((n : Int) = 0) = false := decide_eq_false (by omega)
    by_cases h1 : (n : Int) = size
    · rw [if_pos h1] at hs
      subst hs
      go_wp2
      refine bodyPost_ret (results_cell_row rfl _ _ (w.heap.size + 1) _ _ _ _ rfl (heap_alloc2_new w _ _) Try.underlying52 rfl (by kernel_rfl)) rfl ?_
      exact ⟨rfl, ((Below.refl _ w).alloc (Nat.le_refl _) _).alloc (by simp) _⟩
    · rw [if_neg h1] at hs
      subst hs
      go_wp2
      refine bodyPost_ret (results_cell_row rfl _ _ (w.heap.size + 1) _ _ _ _ rfl (heap_alloc2_new w _ _) Try.underlying52 rfl (by kernel_rfl)) rfl ?_
      exact ⟨rfl, ((Below.refl _ w).alloc (Nat.le_refl _) _).alloc (by simp) _⟩
end Go.Proofs.Ytdiokmaomglefaa
/- Zones: Check. -/
namespace Go.Proofs.Ytdiokmaomglefaa
open Go Go.RowKit

set_option linter.unusedSimpArgs false in
set_option maxHeartbeats 2000000 in
theorem zcheck_any (z : Zn) (size : Int) (a : Option Addr) (cap : Nat) (w : World) :
    Calls Try.prog 32 #[zv z.st (.slice a z.data.length cap) z.lasts, .int .i64 size] w fun e w' => e = .returned (.bool (zoneOk size z)) ∧ Below w.heap.size w w' := by
  obtain ⟨st, data, lasts⟩ := z
  unfold zoneOk zv
  simp only
  generalize data.length = n
  have hb : Below w.heap.size w (w.alloc (.cells #[.int .i64 st, .slice a n cap, .int .i64 lasts] 52)) := (Below.refl _ w).alloc (Nat.le_refl _) _
  go_enter Try.func32, Try.ntmps32
  by_cases c1 : size < 1
  · have hr : (!decide (size < 1 ∨ 65536 < size ∨ size < (n : Int) ∨ lasts < 0 ∨ (n : Int) < lasts) && decide (st = 0 ∧ n = 0 ∨ st = 1 ∧ 0 < n ∧ (n : Int) < size ∨ st = 2 ∨ st = 3 ∨ st = 4)) = false := by simp [c1]
    rw [hr]
    go_wp2
    go_ret
    exact ⟨rfl, hb⟩
  by_cases c2 : 65536 < size
  · have hr : (!decide (size < 1 ∨ 65536 < size ∨ size < (n : Int) ∨ lasts < 0 ∨ (n : Int) < lasts) && decide (st = 0 ∧ n = 0 ∨ st = 1 ∧ 0 < n ∧ (n : Int) < size ∨ st = 2 ∨ st = 3 ∨ st = 4)) = false := by simp [c2]
    rw [hr]
    go_wp2
    go_ret
    exact ⟨rfl, hb⟩
  by_cases c3 : size < (n : Int)
  · have hr : (!decide (size < 1 ∨ 65536 < size ∨ size < (n : Int) ∨ lasts < 0 ∨ (n : Int) < lasts) && decide (st = 0 ∧ n = 0 ∨ st = 1 ∧ 0 < n ∧ (n : Int) < size ∨ st = 2 ∨ st = 3 ∨ st = 4)) = false := by simp [c3]
    rw [hr]
    go_wp2
    go_ret
    exact ⟨rfl, hb⟩
  by_cases c4 : lasts < 0
  · have hr : (!decide (size < 1 ∨ 65536 < size ∨ size < (n : Int) ∨ lasts < 0 ∨ (n : Int) < lasts) && decide (st = 0 ∧ n = 0 ∨ st = 1 ∧ 0 < n ∧ (n : Int) < size ∨ st = 2 ∨ st = 3 ∨ st = 4)) = false := by simp [c4]
    rw [hr]
    go_wp2
    go_ret
    exact ⟨rfl, hb⟩
  by_cases c5 : (n : Int) < lasts
  · have hr : (!decide (size < 1 ∨ 65536 < size ∨ size < (n : Int) ∨ lasts < 0 ∨ (n : Int) < lasts) && decide (st = 0 ∧ n = 0 ∨ st = 1 ∧ 0 < n ∧ (n : Int) < size ∨ st = 2 ∨ st = 3 ∨ st = 4)) = false := by simp [c5]
    rw [hr]
    go_wp2
    go_ret
    exact ⟨rfl, hb⟩
  have hr : (!decide (size < 1 ∨ 65536 < size ∨ size < (n : Int) ∨ lasts < 0 ∨ (n : Int) < lasts)) = true := by simp [c1, c2, c3, c4, c5]
  rw [hr, Bool.true_and]
  by_cases s0 : st = 0
  · subst s0
    have hd : decide ((0 : Int) = 0 ∧ n = 0 ∨ (0 : Int) = 1 ∧ 0 < n ∧ (n : Int) < size ∨ (0 : Int) = 2 ∨ (0 : Int) = 3 ∨ (0 : Int) = 4) = ((n : Int) == 0) := by
      rw [Bool.eq_iff_iff]
      simp
    rw [hd]
    go_wp2
    go_ret
    exact ⟨rfl, hb⟩
  by_cases s1 : st = 1
  · subst s1
    by_cases n0 : (n : Int) > 0
    · have hd : decide ((1 : Int) = 0 ∧ n = 0 ∨ (1 : Int) = 1 ∧ 0 < n ∧ (n : Int) < size ∨ (1 : Int) = 2 ∨ (1 : Int) = 3 ∨ (1 : Int) = 4) = decide ((n : Int) < size) := by
        have : 0 < n := by omega
        simp [this]
      rw [hd]
      go_wp2
      go_ret
      exact ⟨rfl, hb⟩
    · have hd : decide ((1 : Int) = 0 ∧ n = 0 ∨ (1 : Int) = 1 ∧ 0 < n ∧ (n : Int) < size ∨ (1 : Int) = 2 ∨ (1 : Int) = 3 ∨ (1 : Int) = 4) = false := by
        have : ¬ 0 < n := by omega
        simp [this]
      rw [hd]
      go_wp2
      go_ret
      exact ⟨rfl, hb⟩
  by_cases s2 : st = 2
  · subst s2
    go_wp2
    go_ret
    exact ⟨rfl, hb⟩
  by_cases s3 : st = 3
  · subst s3
    go_wp2
    go_ret
    exact ⟨rfl, hb⟩
  by_cases s4 : st = 4
  · subst s4
    go_wp2
    go_ret
    exact ⟨rfl, hb⟩
  have hd : decide (st = 0 ∧ n = 0 ∨ st = 1 ∧ 0 < n ∧ (n : Int) < size ∨ st = 2 ∨ st = 3 ∨ st = 4) = false := by simp [s0, s1, s2, s3, s4]
  rw [hd]
  go_wp2
  go_ret
  exact ⟨rfl, hb⟩
end Go.Proofs.Ytdiokmaomglefaa
/- bytes.Clone, off the shelf. -/
namespace Go.Proofs.Ytdiokmaomglefaa
open Go Go.RowKit

theorem bclone_any (a : Option Addr) (n cap : Nat) (l : List UInt8) (w : World) (h : Bt w (.slice a n cap) l) :
    Calls Try.prog 47 #[.slice a n cap] w fun e w' => (∃ v, e = .returned v ∧ w'.ownsRow w.heap.size 5 1 v l.length (l.map bv)) ∧ Below w.heap.size w w' := by
  obtain ⟨rfl, p1, p2, p3⟩ := h.len
  cases a with
  | none =>
    have hl : l = [] := by
      obtain ⟨a', cap', e, h0, hc, _⟩ := h
      cases e
      have := h0 rfl
      exact List.eq_nil_of_length_eq_zero (by omega)
    subst hl
    refine (Try.bytes_Clone_nil _ _ _).mono ?_
    rintro e w' ⟨rfl, rfl⟩
    exact ⟨⟨_, rfl, World.ownsRow_nil _ _ _ _⟩, Below.refl _ _⟩
  | some a =>
    refine (Try.bytes_Clone_at a l.length cap (l.map fun b => (b.toNat : Int)) w (by simp) p3 ?_).mono ?_
    · intro i hi
      obtain ⟨b, off, ha, _, hc⟩ := h.where (by omega)
      cases ha
      have hadd : (⟨b, off, none⟩ : Addr).add i = ⟨b, off + i, none⟩ := by unfold Addr.add; split <;> simp_all
      rw [hadd, hc i hi]
      simp [hi, bv]
    · rintro e w' ⟨v, rfl, hown, _, hb⟩
      refine ⟨⟨v, rfl, ?_⟩, hb⟩
      have : (l.map fun b => (b.toNat : Int)).map (Value.int .u8) = l.map bv := by
        rw [List.map_map]
        rfl
      rw [← this]
      exact hown
end Go.Proofs.Ytdiokmaomglefaa
/- Zones: own. -/
namespace Go.Proofs.Ytdiokmaomglefaa
open Go Go.RowKit

theorem zv_one (st lasts : Int) (a : Option Addr) (n cap : Nat) : (#[.int .i64 st, .slice a n cap, .int .i64 lasts] : Array Value).all (·.oneCell') = true := by
  simp
  exact ⟨rfl, rfl, rfl⟩
set_option linter.unusedSimpArgs false in
set_option maxRecDepth 100000 in
set_option maxHeartbeats 600000 in
theorem zown_any (st lasts : Int) (a : Option Addr) (n cap : Nat) (l : List UInt8) (w : World) (h : Bt w (.slice a n cap) l) :
    Calls Try.prog 70 #[zv st (.slice a n cap) lasts] w fun e w' => (∃ v, e = .returned (zv st v lasts) ∧ w'.ownsRow w.heap.size 5 1 v l.length (l.map bv)) ∧ Below w.heap.size w w' := by
  obtain ⟨rfl, p1, p2, p3⟩ := h.len
  unfold zv
  go_enter Try.func70, Try.ntmps70
  have hb1 : Below w.heap.size w ((w.alloc (.cells #[.int .i64 st, .slice a l.length cap, .int .i64 lasts] 52)).alloc (.cells #[.int .i64 0, .slice none 0 0, .int .i64 0] 52)) := ((Below.refl _ w).alloc (Nat.le_refl _) _).alloc (by simp) _
  have h1 := h.below hb1
  go_wp2_with fail
  refine (bclone_any a l.length cap l _ h1).mono ?_
  rintro e w2 ⟨⟨v, rfl, hown⟩, hb2⟩
  have g1 := blk_on (heap_alloc2_old w (.cells #[.int .i64 st, .slice a l.length cap, .int .i64 lasts] 52) (.cells #[.int .i64 0, .slice none 0 0, .int .i64 0] 52)) hb2
  have g2 := blk_on (heap_alloc2_new w (.cells #[.int .i64 st, .slice a l.length cap, .int .i64 lasts] 52) (.cells #[.int .i64 0, .slice none 0 0, .int .i64 0] 52)) hb2
  have hbb := hb1.trans (hb2.mono (by simp; omega))
  obtain ⟨a2, c2, rfl, _⟩ := own_bt hown p3
  have s1 := set_cell (j := 1) g1 (.slice a2 l.length c2)
  have z1 := thawed g1
  have k1 : w2.cell? ⟨w.heap.size, 1, none⟩ = some (.slice a l.length cap) := (cell_of_block g1 1).trans rfl
  have e1 : (w2.setCell ⟨w.heap.size, 1, none⟩ (.slice a2 l.length c2)).heap[w.heap.size]? = some (.cells [Value.int .i64 st, .slice a2 l.length c2, .int .i64 lasts].toArray 52 (0, 0)) := s1.blk
  have g3 := (s1.rest (w.heap.size + 1) (by omega)).trans g2
  have hi3 : (Try.prog.info? 52).map (·.size) = some 3 := by kernel_rfl
  have own2 := own_on hown (fun k hk => s1.rest k (by simp at hk; omega))
  have hb3 := hbb.trans s1.bel
  have hone := zv_one st lasts a2 l.length c2
  have r1 := range_of_block e1
  clear hb1 hb2 h1 h hown g2 hbb
  go_wp2_with (first
    | refine wpList_load_at (by rfl) 52 (.tmp 1) rfl w.heap.size 0 (by rfl) [.int .i64 st, .slice a2 l.length c2, .int .i64 lasts] _ r1 Try.underlying52 rfl hi3 ?_
    | (refine wpList_lay (by rfl) 52 (.tmp 2) (.tmp 7) rfl (w.heap.size + 1) #[.int .i64 st, .slice a2 l.length c2, .int .i64 lasts] (by rfl) (by rfl) 52 _ g3 3 hi3 rfl rfl hone ?_; intro w9 hL9))
  refine bodyPost_ret (results_cell_row rfl _ _ (w.heap.size + 1) _ _ _ _ rfl hL9.blk Try.underlying52 rfl (by kernel_rfl)) rfl ?_
  refine ⟨⟨_, rfl, owns_base (own_on own2 (fun k hk => hL9.rest k (by simp at hk; omega))) (by simp; omega)⟩, hb3.trans (hL9.bel.mono (by omega))⟩
end Go.Proofs.Ytdiokmaomglefaa
/- Zones: Flush. -/
namespace Go.Proofs.Ytdiokmaomglefaa
open Go Go.RowKit

set_option linter.unusedSimpArgs false in
set_option maxRecDepth 100000 in
set_option maxHeartbeats 600000 in
theorem zflush_any (st lasts : Int) (a : Option Addr) (n cap : Nat) (l : List UInt8) (w : World) (h : Bt w (.slice a n cap) l) :
    Calls Try.prog 50 #[zv st (.slice a n cap) lasts] w fun e w' => (∃ v, e = .returned (zv st v l.length) ∧ w'.ownsRow w.heap.size 5 1 v l.length (l.map bv)) ∧ Below w.heap.size w w' := by
  obtain ⟨rfl, p1, p2, p3⟩ := h.len
  unfold zv
  go_enter Try.func50, Try.ntmps50
  have hb1 : Below w.heap.size w ((w.alloc (.cells #[.int .i64 st, .slice a l.length cap, .int .i64 l.length] 52)).alloc (.cells #[.int .i64 0, .slice none 0 0, .int .i64 0] 52)) := ((Below.refl _ w).alloc (Nat.le_refl _) _).alloc (by simp) _
  have h1 := h.below hb1
  go_wp2_with fail
  refine (zown_any st l.length a l.length cap l _ h1).mono ?_
  rintro e w2 ⟨⟨v, rfl, hv⟩, hb2⟩
  have g2 := blk_on (heap_alloc2_new w (.cells #[.int .i64 st, .slice a l.length cap, .int .i64 l.length] 52) (.cells #[.int .i64 0, .slice none 0 0, .int .i64 0] 52)) hb2
  have hbb := hb1.trans (hb2.mono (by simp; omega))
  obtain ⟨a2, c2, rfl, _⟩ := own_bt hv p3
  have hi3 : (Try.prog.info? 52).map (·.size) = some 3 := by kernel_rfl
  have hone := zv_one st l.length a2 l.length c2
  clear hb1 hb2 h1 h
  unfold zv
  go_wp2_with (refine wpList_lay (by rfl) 52 (.tmp 2) (.tmp 8) rfl (w.heap.size + 1) #[.int .i64 st, .slice a2 l.length c2, .int .i64 l.length] (by rfl) (by rfl) 52 _ g2 3 hi3 rfl rfl hone ?_; intro w9 hL9)
  refine bodyPost_ret (results_cell_row rfl _ _ (w.heap.size + 1) _ _ _ _ rfl hL9.blk Try.underlying52 rfl (by kernel_rfl)) rfl ?_
  exact ⟨⟨_, rfl, owns_base (own_on hv (fun k hk => hL9.rest k (by simp at hk; omega))) (by simp; omega)⟩, hbb.trans (hL9.bel.mono (by omega))⟩
end Go.Proofs.Ytdiokmaomglefaa
/- Zones: Finish. -/
namespace Go.Proofs.Ytdiokmaomglefaa
open Go Go.RowKit

set_option linter.unusedSimpArgs false in
set_option maxRecDepth 100000 in
set_option maxHeartbeats 600000 in
theorem zfinish_any (st lasts : Int) (ht : st = 0 ∨ st = 1) (a : Option Addr) (n cap : Nat) (l : List UInt8) (w : World) (h : Bt w (.slice a n cap) l) :
    Calls Try.prog 68 #[zv st (.slice a n cap) lasts] w fun e w' => (∃ v, e = .returned (.tuple #[zv 2 v lasts, .int .i64 0]) ∧ w'.ownsRow w.heap.size 5 1 v l.length (l.map bv)) ∧ Below w.heap.size w w' := by
  obtain ⟨rfl, p1, p2, p3⟩ := h.len
  have htk : decide (st = 0 ∨ st = 1) = true := decide_eq_true ht
  have hb1 : Below w.heap.size w ((w.alloc (.cells #[.int .i64 st, .slice a l.length cap, .int .i64 lasts] 52)).alloc (.cells #[.int .i64 0, .slice none 0 0, .int .i64 0] 52)) := ((Below.refl _ w).alloc (Nat.le_refl _) _).alloc (by simp) _
  unfold zv
  go_enter Try.func68, Try.ntmps68
  go_wp2_with fail
  refine (takes_any st lasts a l.length cap _).mono ?_
  rintro e w2 ⟨rfl, hb2⟩
  rw [htk]
  have g1 := blk_on (heap_alloc2_old w (.cells #[.int .i64 st, .slice a l.length cap, .int .i64 lasts] 52) (.cells #[.int .i64 0, .slice none 0 0, .int .i64 0] 52)) hb2
  have g2 := blk_on (heap_alloc2_new w (.cells #[.int .i64 st, .slice a l.length cap, .int .i64 lasts] 52) (.cells #[.int .i64 0, .slice none 0 0, .int .i64 0] 52)) hb2
  have hbb := hb1.trans (hb2.mono (by simp; omega))
  have s1 := set_cell (j := 0) g1 (.int .i64 2)
  have z1 := thawed g1
  have k1 : w2.cell? ⟨w.heap.size, 0, none⟩ = some (.int .i64 st) := (cell_of_block g1 0).trans rfl
  have e1 : (w2.setCell ⟨w.heap.size, 0, none⟩ (.int .i64 2)).heap[w.heap.size]? = some (.cells [Value.int .i64 2, .slice a l.length cap, .int .i64 lasts].toArray 52 (0, 0)) := s1.blk
  have g3 := (s1.rest (w.heap.size + 1) (by omega)).trans g2
  have hb3 := hbb.trans s1.bel
  have r1 := range_of_block e1
  have hi3 : (Try.prog.info? 52).map (·.size) = some 3 := by kernel_rfl
  have h3 := h.below hb3
  clear hb1 hb2 hbb g2 h htk
  go_wp2_with (refine wpList_load_at (by rfl) 52 (.tmp 1) rfl w.heap.size 0 (by rfl) [.int .i64 2, .slice a l.length cap, .int .i64 lasts] _ r1 Try.underlying52 rfl hi3 ?_)
  refine (zown_any 2 lasts a l.length cap l _ h3).mono ?_
  rintro e w4 ⟨⟨v, rfl, hv⟩, hb4⟩
  have g4 := blk_on g3 hb4
  have hb5 := hb3.trans (hb4.mono hb3.size)
  have hz4 : w.heap.size + 2 ≤ (w2.setCell ⟨w.heap.size, 0, none⟩ (.int .i64 2)).heap.size := block_lt g3
  obtain ⟨a2, c2, rfl, _⟩ := own_bt hv p3
  have hone := zv_one 2 lasts a2 l.length c2
  clear hb3 hb4 g1 g3 s1 z1 k1 e1 r1 h3
  unfold zv
  go_wp2_with (refine wpList_lay (by rfl) 52 (.tmp 2) (.tmp 11) rfl (w.heap.size + 1) #[.int .i64 2, .slice a2 l.length c2, .int .i64 lasts] (by rfl) (by rfl) 52 _ g4 3 hi3 rfl rfl hone ?_; intro w9 hL9)
  refine bodyPost_ret (results_ct rfl _ _ (w.heap.size + 1) _ _ _ 3 rfl hL9.blk Try.underlying52 rfl (by kernel_rfl) rfl) rfl ?_
  exact ⟨⟨_, rfl, owns_base (own_on hv (fun k hk => hL9.rest k (by omega))) (by omega)⟩, hb5.trans (hL9.bel.mono (by omega))⟩
end Go.Proofs.Ytdiokmaomglefaa
/- Zones: Reset. -/
namespace Go.Proofs.Ytdiokmaomglefaa
open Go Go.RowKit

set_option linter.unusedSimpArgs false in
set_option maxRecDepth 100000 in
set_option maxHeartbeats 600000 in
theorem zreset_any (st lasts : Int) (ht : st = 0 ∨ st = 1 ∨ st = 2) (a : Option Addr) (n cap : Nat) (w : World) :
    Calls Try.prog 67 #[zv st (.slice a n cap) lasts] w fun e w' => e = .returned (.tuple #[zv 0 (.slice none 0 0) 0, .int .i64 0]) ∧ Below w.heap.size w w' := by
  have hb1 : Below w.heap.size w ((w.alloc (.cells #[.int .i64 st, .slice a n cap, .int .i64 lasts] 52)).alloc (.cells #[.int .i64 0, .slice none 0 0, .int .i64 0] 52)) := ((Below.refl _ w).alloc (Nat.le_refl _) _).alloc (by simp) _
  have hi3 : (Try.prog.info? 52).map (·.size) = some 3 := by kernel_rfl
  have hone := zv_one 0 0 none 0 0
  unfold zv
  go_enter Try.func67, Try.ntmps67
  go_wp2_with fail
  refine (takes_any st lasts a n cap _).mono ?_
  rintro e w2 ⟨rfl, hb2⟩
  have g1 := blk_on (heap_alloc2_old w (.cells #[.int .i64 st, .slice a n cap, .int .i64 lasts] 52) (.cells #[.int .i64 0, .slice none 0 0, .int .i64 0] 52)) hb2
  have g2 := blk_on (heap_alloc2_new w (.cells #[.int .i64 st, .slice a n cap, .int .i64 lasts] 52) (.cells #[.int .i64 0, .slice none 0 0, .int .i64 0] 52)) hb2
  have hbb := hb1.trans (hb2.mono (by simp; omega))
  have k1 : w2.cell? ⟨w.heap.size, 0, none⟩ = some (.int .i64 st) := (cell_of_block g1 0).trans rfl
  clear hb1 hb2 g1
  rcases ht with rfl | rfl | rfl
  all_goals
    go_wp2_with (refine wpList_lay (by rfl) 52 (.tmp 2) (.tmp 14) rfl (w.heap.size + 1) #[.int .i64 0, .slice none 0 0, .int .i64 0] (by rfl) (by rfl) 52 _ g2 3 hi3 rfl rfl hone ?_; intro w9 hL9)
    refine bodyPost_ret (results_ct rfl _ _ (w.heap.size + 1) _ _ _ 3 rfl hL9.blk Try.underlying52 rfl (by kernel_rfl) rfl) rfl ?_
    exact ⟨rfl, hbb.trans (hL9.bel.mono (by omega))⟩
end Go.Proofs.Ytdiokmaomglefaa
/- Numbers as bytes: fix.may, fix.Put. -/
namespace Go.Proofs.Ytdiokmaomglefaa
open Go Go.RowKit

theorem may_any (s : Int) (hs : s = 1 ∨ s = 2 ∨ s = 4 ∨ s = 8) (w : World) :
    Calls Try.prog 63 #[.int .i64 s] w fun e w' => e = .returned (.bool true) ∧ Below w.heap.size w w' := by
  rcases hs with rfl | rfl | rfl | rfl
  all_goals
    go_enter Try.func63, Try.ntmps63
    go_wp2_with fail
    go_ret
    exact ⟨rfl, Below.refl _ _⟩
theorem info_u8 : (Try.prog.info? 5).map (fun i => (i.zero, i.size, i.bytes)) = some (some (.int .u8 0), 1, 1) := by kernel_rfl
/-- What stands in a row of which so many bytes are written. -/
def part (l : List UInt8) (j : Nat) : List Value := (l.take j ++ List.replicate (l.length - j) 0).map bv
theorem part_zero (l : List UInt8) : part l 0 = List.replicate l.length (.int .u8 0) := by simp [part, bv]
theorem part_all (l : List UInt8) : part l l.length = l.map bv := by simp [part]
theorem part_set (l : List UInt8) (j : Nat) (h : j < l.length) : (part l j).set j (bv l[j]) = part l (j + 1) := by
  unfold part
  rw [← List.map_set]
  congr 1
  rw [List.set_append_right _ _ (by rw [List.length_take]; omega)]
  have e : l.length - j = (l.length - (j + 1)) + 1 := by omega
  rw [e, List.replicate_succ, List.length_take, Nat.min_eq_left (by omega), Nat.sub_self, List.set_cons_zero, List.take_succ_eq_append_getElem h, List.append_assoc]
  rfl
theorem le_at (n s j : Nat) (h : j < s) : (le n s)[j]'(by rw [le_length]; exact h) = UInt8.ofNat (n / 256 ^ j) := by
  induction s generalizing n j with
  | zero => omega
  | succ s ih =>
    cases j with
    | zero => simp [le]
    | succ j =>
      simp only [le, List.getElem_cons_succ]
      rw [ih _ _ (by omega), Nat.div_div_eq_div_mul, Nat.pow_succ, Nat.mul_comm]
theorem byte_at (n s j : Nat) (h : j < s) : Value.int .u8 ((n : Int) / 2 ^ (8 * j) % 256) = bv ((le n s)[j]'(by rw [le_length]; exact h)) := by
  rw [le_at n s j h]
  have e : (2 : Int) ^ (8 * j) = ((256 ^ j : Nat) : Int) := by rw [Int.pow_mul]; simp
  rw [e, ← Int.natCast_ediv]
  simp [bv]
set_option maxRecDepth 100000 in
set_option maxHeartbeats 1000000 in
theorem put_1 (n : Nat) (hn : n < 256) (w : World) :
    Calls Try.prog 59 #[.int .u64 n, .int .i64 1] w fun e w' => (∃ v, e = .returned (.tuple #[v, .int .i64 0]) ∧ w'.ownsRow w.heap.size 5 1 v 1 ((le n 1).map bv)) ∧ Below w.heap.size w w' := by
  obtain ⟨i0, hi, hz0, hz1, hz2⟩ := info_parts info_u8
  go_enter Try.func59, Try.ntmps59
  go_wp2_with fail
  refine (may_any _ (by decide) _).mono ?_
  rintro e w1 ⟨rfl, hb1⟩
  go_wp2_with (at_make; refine wpList_make_full _ rfl _ _ 24 rfl w1.heap.size 5 i0 (.int .u8 0) 1 Try.underlying24 hi hz0 hz1 .i64 .i64 1 1 1 rfl rfl rfl rfl (by rw [hz2]; decide) (by decide) (Nat.le_refl _) ?_; intro w2 hown2 hg2)
  have hown : w2.ownsRow w1.heap.size 5 1 (.slice (some ⟨w1.heap.size, 0, none⟩) 1 1) 1 (part (le n 1) 0) := by
    rw [part_zero, le_length]
    have hown2 : w2.ownsRow w1.heap.size 5 1 (.slice (some ⟨w1.heap.size, 0, none⟩) 1 1) 1 (madeCells #[.int .u8 0] 1).toList := hown2
    rw [toList_madeCells_one] at hown2
    exact hown2
  have hb2 : Below w1.heap.size w1 w2 := (Below.refl _ w1).grown hg2 (Nat.le_refl _) (fun k hk => by cases hk)
  obtain ⟨B, hB⟩ : ∃ B, w1.heap.size = B := ⟨_, rfl⟩
  rw [hB] at hown hb2 ⊢
  have HN := Lib.hid hn
  clear hown2 hg2 hn
  go_loopw [7, 26] (fun _ i wr => ∃ j : Nat, j ≤ 1 ∧ i = .int .i64 j ∧ wr.ownsRow B 5 1 (.slice (some ⟨B, 0, none⟩) 1 1) 1 (part (le n 1) j) ∧ Below B w1 wr) (fun _ i _ => 1 - (intOf i).toNat)
  case atStart => exact ⟨0, by omega, rfl, hown, hb2⟩
  case round =>
    obtain ⟨j, hj, rfl, hor, hbr⟩ := hrel
    by_cases hlt : j < 1
    · have hst := hor.stored j (bv ((le n 1)[j]'(by rw [le_length]; exact hlt)))
      rw [part_set] at hst
      have hfz := hor.frozenAt j
      have hbs : Below B wr (wr.setCell ⟨B, j, none⟩ (bv ((le n 1)[j]'(by rw [le_length]; exact hlt)))) := (Below.refl B wr).setCell (p := ⟨B, j, none⟩) (Nat.le_refl _) _
      obtain ⟨c, hc⟩ : ∃ c, wr.cell? ⟨B, j, none⟩ = some c := ⟨_, (hor.cellAt j (by omega)).trans (List.getElem?_eq_getElem (by rw [hor.1]; omega))⟩
      go_wp2_with fail
      rw [byte_at n 1 j hlt]
      refine ⟨⟨j + 1, by omega, congrArg (Value.int .i64) (by omega), hst.1, hbr.trans hbs⟩, ?_⟩
      show 1 - ((j : Int) + 1).toNat < 1 - (j : Int).toNat
      omega
    · obtain rfl : j = 1 := by omega
      go_wp2
      go_ret2
      have hpa : part (le n 1) 1 = (le n 1).map bv := by
        have h := part_all (le n 1)
        rwa [le_length] at h
      have hs1 := hb1.size
      rw [hpa] at hor
      exact ⟨⟨_, rfl, owns_base hor (by omega)⟩, hb1.trans (hbr.mono (by omega))⟩
set_option maxRecDepth 100000 in
set_option maxHeartbeats 1000000 in
theorem put_2 (n : Nat) (hn : n < 65536) (w : World) :
    Calls Try.prog 59 #[.int .u64 n, .int .i64 2] w fun e w' => (∃ v, e = .returned (.tuple #[v, .int .i64 0]) ∧ w'.ownsRow w.heap.size 5 1 v 2 ((le n 2).map bv)) ∧ Below w.heap.size w w' := by
  obtain ⟨i0, hi, hz0, hz1, hz2⟩ := info_parts info_u8
  go_enter Try.func59, Try.ntmps59
  go_wp2_with fail
  refine (may_any _ (by decide) _).mono ?_
  rintro e w1 ⟨rfl, hb1⟩
  go_wp2_with (at_make; refine wpList_make_full _ rfl _ _ 24 rfl w1.heap.size 5 i0 (.int .u8 0) 1 Try.underlying24 hi hz0 hz1 .i64 .i64 2 2 2 rfl rfl rfl rfl (by rw [hz2]; decide) (by decide) (Nat.le_refl _) ?_; intro w2 hown2 hg2)
  have hown : w2.ownsRow w1.heap.size 5 1 (.slice (some ⟨w1.heap.size, 0, none⟩) 2 2) 2 (part (le n 2) 0) := by
    rw [part_zero, le_length]
    have hown2 : w2.ownsRow w1.heap.size 5 1 (.slice (some ⟨w1.heap.size, 0, none⟩) 2 2) 2 (madeCells #[.int .u8 0] 2).toList := hown2
    rw [toList_madeCells_one] at hown2
    exact hown2
  have hb2 : Below w1.heap.size w1 w2 := (Below.refl _ w1).grown hg2 (Nat.le_refl _) (fun k hk => by cases hk)
  obtain ⟨B, hB⟩ : ∃ B, w1.heap.size = B := ⟨_, rfl⟩
  rw [hB] at hown hb2 ⊢
  have HN := Lib.hid hn
  clear hown2 hg2 hn
  go_loopw [7, 26] (fun _ i wr => ∃ j : Nat, j ≤ 2 ∧ i = .int .i64 j ∧ wr.ownsRow B 5 1 (.slice (some ⟨B, 0, none⟩) 2 2) 2 (part (le n 2) j) ∧ Below B w1 wr) (fun _ i _ => 2 - (intOf i).toNat)
  case atStart => exact ⟨0, by omega, rfl, hown, hb2⟩
  case round =>
    obtain ⟨j, hj, rfl, hor, hbr⟩ := hrel
    by_cases hlt : j < 2
    · have hst := hor.stored j (bv ((le n 2)[j]'(by rw [le_length]; exact hlt)))
      rw [part_set] at hst
      have hfz := hor.frozenAt j
      have hbs : Below B wr (wr.setCell ⟨B, j, none⟩ (bv ((le n 2)[j]'(by rw [le_length]; exact hlt)))) := (Below.refl B wr).setCell (p := ⟨B, j, none⟩) (Nat.le_refl _) _
      obtain ⟨c, hc⟩ : ∃ c, wr.cell? ⟨B, j, none⟩ = some c := ⟨_, (hor.cellAt j (by omega)).trans (List.getElem?_eq_getElem (by rw [hor.1]; omega))⟩
      go_wp2_with fail
      rw [byte_at n 2 j hlt]
      refine ⟨⟨j + 1, by omega, congrArg (Value.int .i64) (by omega), hst.1, hbr.trans hbs⟩, ?_⟩
      show 2 - ((j : Int) + 1).toNat < 2 - (j : Int).toNat
      omega
    · obtain rfl : j = 2 := by omega
      go_wp2
      go_ret2
      have hpa : part (le n 2) 2 = (le n 2).map bv := by
        have h := part_all (le n 2)
        rwa [le_length] at h
      have hs1 := hb1.size
      rw [hpa] at hor
      exact ⟨⟨_, rfl, owns_base hor (by omega)⟩, hb1.trans (hbr.mono (by omega))⟩
set_option maxRecDepth 100000 in
set_option maxHeartbeats 1000000 in
theorem put_4 (n : Nat) (hn : n < 4294967296) (w : World) :
    Calls Try.prog 59 #[.int .u64 n, .int .i64 4] w fun e w' => (∃ v, e = .returned (.tuple #[v, .int .i64 0]) ∧ w'.ownsRow w.heap.size 5 1 v 4 ((le n 4).map bv)) ∧ Below w.heap.size w w' := by
  obtain ⟨i0, hi, hz0, hz1, hz2⟩ := info_parts info_u8
  go_enter Try.func59, Try.ntmps59
  go_wp2_with fail
  refine (may_any _ (by decide) _).mono ?_
  rintro e w1 ⟨rfl, hb1⟩
  go_wp2_with (at_make; refine wpList_make_full _ rfl _ _ 24 rfl w1.heap.size 5 i0 (.int .u8 0) 1 Try.underlying24 hi hz0 hz1 .i64 .i64 4 4 4 rfl rfl rfl rfl (by rw [hz2]; decide) (by decide) (Nat.le_refl _) ?_; intro w2 hown2 hg2)
  have hown : w2.ownsRow w1.heap.size 5 1 (.slice (some ⟨w1.heap.size, 0, none⟩) 4 4) 4 (part (le n 4) 0) := by
    rw [part_zero, le_length]
    have hown2 : w2.ownsRow w1.heap.size 5 1 (.slice (some ⟨w1.heap.size, 0, none⟩) 4 4) 4 (madeCells #[.int .u8 0] 4).toList := hown2
    rw [toList_madeCells_one] at hown2
    exact hown2
  have hb2 : Below w1.heap.size w1 w2 := (Below.refl _ w1).grown hg2 (Nat.le_refl _) (fun k hk => by cases hk)
  obtain ⟨B, hB⟩ : ∃ B, w1.heap.size = B := ⟨_, rfl⟩
  rw [hB] at hown hb2 ⊢
  have HN := Lib.hid hn
  clear hown2 hg2 hn
  go_loopw [7, 26] (fun _ i wr => ∃ j : Nat, j ≤ 4 ∧ i = .int .i64 j ∧ wr.ownsRow B 5 1 (.slice (some ⟨B, 0, none⟩) 4 4) 4 (part (le n 4) j) ∧ Below B w1 wr) (fun _ i _ => 4 - (intOf i).toNat)
  case atStart => exact ⟨0, by omega, rfl, hown, hb2⟩
  case round =>
    obtain ⟨j, hj, rfl, hor, hbr⟩ := hrel
    by_cases hlt : j < 4
    · have hst := hor.stored j (bv ((le n 4)[j]'(by rw [le_length]; exact hlt)))
      rw [part_set] at hst
      have hfz := hor.frozenAt j
      have hbs : Below B wr (wr.setCell ⟨B, j, none⟩ (bv ((le n 4)[j]'(by rw [le_length]; exact hlt)))) := (Below.refl B wr).setCell (p := ⟨B, j, none⟩) (Nat.le_refl _) _
      obtain ⟨c, hc⟩ : ∃ c, wr.cell? ⟨B, j, none⟩ = some c := ⟨_, (hor.cellAt j (by omega)).trans (List.getElem?_eq_getElem (by rw [hor.1]; omega))⟩
      go_wp2_with fail
      rw [byte_at n 4 j hlt]
      refine ⟨⟨j + 1, by omega, congrArg (Value.int .i64) (by omega), hst.1, hbr.trans hbs⟩, ?_⟩
      show 4 - ((j : Int) + 1).toNat < 4 - (j : Int).toNat
      omega
    · obtain rfl : j = 4 := by omega
      go_wp2
      go_ret2
      have hpa : part (le n 4) 4 = (le n 4).map bv := by
        have h := part_all (le n 4)
        rwa [le_length] at h
      have hs1 := hb1.size
      rw [hpa] at hor
      exact ⟨⟨_, rfl, owns_base hor (by omega)⟩, hb1.trans (hbr.mono (by omega))⟩
set_option maxRecDepth 100000 in
set_option maxHeartbeats 1000000 in
theorem put_8 (n : Nat) (hn : n < 18446744073709551616) (w : World) :
    Calls Try.prog 59 #[.int .u64 n, .int .i64 8] w fun e w' => (∃ v, e = .returned (.tuple #[v, .int .i64 0]) ∧ w'.ownsRow w.heap.size 5 1 v 8 ((le n 8).map bv)) ∧ Below w.heap.size w w' := by
  obtain ⟨i0, hi, hz0, hz1, hz2⟩ := info_parts info_u8
  go_enter Try.func59, Try.ntmps59
  go_wp2_with fail
  refine (may_any _ (by decide) _).mono ?_
  rintro e w1 ⟨rfl, hb1⟩
  go_wp2_with (at_make; refine wpList_make_full _ rfl _ _ 24 rfl w1.heap.size 5 i0 (.int .u8 0) 1 Try.underlying24 hi hz0 hz1 .i64 .i64 8 8 8 rfl rfl rfl rfl (by rw [hz2]; decide) (by decide) (Nat.le_refl _) ?_; intro w2 hown2 hg2)
  have hown : w2.ownsRow w1.heap.size 5 1 (.slice (some ⟨w1.heap.size, 0, none⟩) 8 8) 8 (part (le n 8) 0) := by
    rw [part_zero, le_length]
    have hown2 : w2.ownsRow w1.heap.size 5 1 (.slice (some ⟨w1.heap.size, 0, none⟩) 8 8) 8 (madeCells #[.int .u8 0] 8).toList := hown2
    rw [toList_madeCells_one] at hown2
    exact hown2
  have hb2 : Below w1.heap.size w1 w2 := (Below.refl _ w1).grown hg2 (Nat.le_refl _) (fun k hk => by cases hk)
  obtain ⟨B, hB⟩ : ∃ B, w1.heap.size = B := ⟨_, rfl⟩
  rw [hB] at hown hb2 ⊢
  have HN := Lib.hid hn
  clear hown2 hg2 hn
  go_loopw [7, 26] (fun _ i wr => ∃ j : Nat, j ≤ 8 ∧ i = .int .i64 j ∧ wr.ownsRow B 5 1 (.slice (some ⟨B, 0, none⟩) 8 8) 8 (part (le n 8) j) ∧ Below B w1 wr) (fun _ i _ => 8 - (intOf i).toNat)
  case atStart => exact ⟨0, by omega, rfl, hown, hb2⟩
  case round =>
    obtain ⟨j, hj, rfl, hor, hbr⟩ := hrel
    by_cases hlt : j < 8
    · have hst := hor.stored j (bv ((le n 8)[j]'(by rw [le_length]; exact hlt)))
      rw [part_set] at hst
      have hfz := hor.frozenAt j
      have hbs : Below B wr (wr.setCell ⟨B, j, none⟩ (bv ((le n 8)[j]'(by rw [le_length]; exact hlt)))) := (Below.refl B wr).setCell (p := ⟨B, j, none⟩) (Nat.le_refl _) _
      obtain ⟨c, hc⟩ : ∃ c, wr.cell? ⟨B, j, none⟩ = some c := ⟨_, (hor.cellAt j (by omega)).trans (List.getElem?_eq_getElem (by rw [hor.1]; omega))⟩
      go_wp2_with fail
      rw [byte_at n 8 j hlt]
      refine ⟨⟨j + 1, by omega, congrArg (Value.int .i64) (by omega), hst.1, hbr.trans hbs⟩, ?_⟩
      show 8 - ((j : Int) + 1).toNat < 8 - (j : Int).toNat
      omega
    · obtain rfl : j = 8 := by omega
      go_wp2
      go_ret2
      have hpa : part (le n 8) 8 = (le n 8).map bv := by
        have h := part_all (le n 8)
        rwa [le_length] at h
      have hs1 := hb1.size
      rw [hpa] at hor
      exact ⟨⟨_, rfl, owns_base hor (by omega)⟩, hb1.trans (hbr.mono (by omega))⟩
theorem put_any (n s : Nat) (hs : s = 1 ∨ s = 2 ∨ s = 4 ∨ s = 8) (hn : n < 256 ^ s) (w : World) :
    Calls Try.prog 59 #[.int .u64 n, .int .i64 s] w fun e w' => (∃ v, e = .returned (.tuple #[v, .int .i64 0]) ∧ w'.ownsRow w.heap.size 5 1 v s ((le n s).map bv)) ∧ Below w.heap.size w w' := by
  rcases hs with rfl | rfl | rfl | rfl
  · exact put_1 n (by simpa using hn) w
  · exact put_2 n (by simpa using hn) w
  · exact put_4 n (by simpa using hn) w
  · exact put_8 n (by simpa using hn) w
end Go.Proofs.Ytdiokmaomglefaa
/- Numbers one behind the other: fix.Fields. -/
namespace Go.Proofs.Ytdiokmaomglefaa
open Go Go.RowKit

def fieldsB (l : List (Nat × Nat)) : List UInt8 := l.flatMap fun p => le p.2 p.1
def fieldSz (l : List (Nat × Nat)) : List Value := l.map fun p => .int .i64 p.1
def fieldNs (l : List (Nat × Nat)) : List Value := l.map fun p => .int .u64 p.2
theorem fieldsB_snoc (l : List (Nat × Nat)) (j : Nat) (h : j < l.length) : fieldsB (l.take (j + 1)) = fieldsB (l.take j) ++ le l[j].2 l[j].1 := by
  rw [List.take_succ_eq_append_getElem h]
  unfold fieldsB
  rw [List.flatMap_append]
  simp
theorem fieldsB_len (l : List (Nat × Nat)) (h8 : ∀ p ∈ l, p.1 ≤ 8) : (fieldsB l).length ≤ 8 * l.length := by
  induction l with
  | nil => simp [fieldsB]
  | cons p l ih =>
    have h1 := ih fun q hq => h8 q (List.mem_cons_of_mem _ hq)
    have h2 := h8 p List.mem_cons_self
    have e : fieldsB (p :: l) = le p.2 p.1 ++ fieldsB l := rfl
    rw [e, List.length_append, le_length, List.length_cons]
    omega
set_option maxHeartbeats 1000000 in
theorem fields_any (l : List (Nat × Nat)) (hl : l.length ≤ 10) (hs : ∀ p ∈ l, (p.1 = 1 ∨ p.1 = 2 ∨ p.1 = 4 ∨ p.1 = 8) ∧ p.2 < 256 ^ p.1) (a1 a2 : Option Addr) (c1 c2 : Nat) (w : World)
    (h1 : Rw 1 w (.slice a1 l.length c1) l.length (fieldSz l)) (h2 : Rw 1 w (.slice a2 l.length c2) l.length (fieldNs l)) :
    Calls Try.prog 58 #[.slice a1 l.length c1, .slice a2 l.length c2] w fun e w' => (∃ v, e = .returned (.tuple #[v, .int .i64 0]) ∧ w'.ownsRow w.heap.size 5 1 v (fieldsB l).length ((fieldsB l).map bv)) ∧ Below w.heap.size w w' := by
  obtain ⟨i0, hi, hz0, hz1, hz2⟩ := info_parts info_u8
  go_enter Try.func58, Try.ntmps58
  go_wp2_with fail
  go_loopw [4, 6, 7, 8, 9, 17] (fun v _ _ _ _ i wr => ∃ j : Nat, j ≤ l.length ∧ i = .int .i64 j ∧ wr.ownsRow w.heap.size 5 1 v (fieldsB (l.take j)).length ((fieldsB (l.take j)).map bv) ∧ Below w.heap.size w wr) (fun _ _ _ _ _ i _ => l.length - (intOf i).toNat)
  case atStart => exact ⟨0, by omega, rfl, World.ownsRow_nil _ _ _ _, Below.refl _ _⟩
  case round =>
    obtain ⟨j, hj, rfl, hor, hbr⟩ := hrel
    by_cases hlt : j < l.length
    · obtain ⟨b1, o1, rfl, hb1, hr1⟩ := (h1.below hbr).where (by omega)
      obtain ⟨b2, o2, rfl, hb2, hr2⟩ := (h2.below hbr).where (by omega)
      have hc1 := hr1 j (.int .i64 l[j].1) (by simp [fieldSz, hlt])
      have hc2 := hr2 j (.int .u64 l[j].2) (by simp [fieldNs, hlt])
      obtain ⟨hsj, hnj⟩ := hs l[j] (List.getElem_mem hlt)
      have i1 : (0 : Int) ≤ (j : Int) := by omega
      have i2 : (j : Int) < (l.length : Int) := by omega
      have j10 : j ≤ 10 := by omega
      have hbl : (fieldsB (l.take j)).length ≤ 8 * j := by
        have := fieldsB_len (l.take j) (fun p hp => by have := (hs p (List.mem_of_mem_take hp)).1; omega)
        rw [List.length_take] at this
        omega
      have hsn := fieldsB_snoc l j hlt
      have HS := Lib.hid hs
      have Hsj := Lib.hid hsj
      have Hnj := Lib.hid hnj
      have Hsn := Lib.hid hsn
      generalize hp : l[j] = p at *
      have Hp := Lib.hid hp
      clear hs hsj hnj hsn h1 h2 hr1 hr2 hp
      go_wp2_with fail
      refine (put_any p.2 p.1 Hsj.out Hnj.out _).mono ?_
      rintro e w3 ⟨⟨v3, rfl, hv3⟩, hb3⟩
      have hs3 := hb3.size
      have hbr3 := hbr.size
      go_wp2_with (at_builtin
                   refine wpList_append_rw _ rfl (.tmp 34) (.tmp 35) 24 rfl w.heap.size 5 i0 (.int .u8 0) 1 1 Try.underlying24 hi hz0 hz1 hz2 rfl (by decide) _ _ _ rfl (owns_below hor hb3) _ p.1 _ rfl (own_rw hv3) (bv_one _) (by have := Hsj.out; unfold maxLen; omega) (by have := Hsj.out; omega) (by omega) ?_
                   intro v5 w5 hown5 hg5)
      go_roundw
      case rel =>
        refine ⟨j + 1, by omega, congrArg (Value.int .i64) (by omega), ?_, hbr.trans ((hb3.mono (by omega)).grown hg5 (by omega) (fun k hk => ((owns_below hor hb3).lt k hk).1))⟩
        rw [Hsn.out, List.length_append, le_length, List.map_append]
        exact hown5
      case measure =>
        show l.length - ((j : Int) + 1).toNat < l.length - (j : Int).toNat
        omega
    · obtain rfl : j = l.length := by omega
      rw [List.take_length] at hor
      clear hs
      go_wp2
      go_ret2
      exact ⟨⟨_, rfl, hor⟩, hbr⟩
end Go.Proofs.Ytdiokmaomglefaa
/- Zones: Append. -/
namespace Go.Proofs.Ytdiokmaomglefaa
open Go Go.RowKit

set_option linter.unusedSimpArgs false in
set_option maxRecDepth 100000 in
set_option maxHeartbeats 600000 in
theorem zappend_any (z : Zn) (size : Int) (hok : zoneOk size z = true) (ht : z.st = 0 ∨ z.st = 1) (a : Option Addr) (n cap : Nat) (ad : Addr) (m c : Nat) (b : List UInt8) (hne : 0 < b.length) (hroom : (b.length : Int) ≤ size - (z.data.length : Int)) (hsz : size ≤ 65536) (w : World) (h : Bt w (.slice a n cap) z.data) (hbt : Bt w (.slice (some ad) m c) b) :
    Calls Try.prog 69 #[zv z.st (.slice a n cap) z.lasts, .int .i64 size, .slice (some ad) m c] w fun e w' => (∃ v, e = .returned (.tuple #[zv (grow size z b).st v z.lasts, .int .i64 0]) ∧ w'.ownsRow w.heap.size 5 1 v (z.data ++ b).length ((z.data ++ b).map bv)) ∧ Below w.heap.size w w' := by
  obtain ⟨st, data, lasts⟩ := z
  simp only at ht hroom h ⊢
  obtain ⟨rfl, p1, p2, p3⟩ := h.len
  obtain ⟨rfl, q1, q2, q3⟩ := hbt.len
  have htk : decide (st = 0 ∨ st = 1) = true := decide_eq_true ht
  have hb1 : Below w.heap.size w ((w.alloc (.cells #[.int .i64 st, .slice a data.length cap, .int .i64 lasts] 52)).alloc (.cells #[.int .i64 0, .slice none 0 0, .int .i64 0] 52)) := ((Below.refl _ w).alloc (Nat.le_refl _) _).alloc (by simp) _
  have hi3 : (Try.prog.info? 52).map (·.size) = some 3 := by kernel_rfl
  have hs2 : (grow size ⟨st, data, lasts⟩ b).st = if (data ++ b).length = 0 then 0 else if ((data ++ b).length : Int) = size then 2 else 1 := rfl
  generalize (grow size ⟨st, data, lasts⟩ b).st = s2 at hs2 ⊢
  have Hs2 := Lib.hid hs2
  clear hs2
  unfold zv
  go_enter Try.func69, Try.ntmps69
  go_wp2_with fail
  refine (zcheck_any ⟨st, data, lasts⟩ size a cap _).mono ?_
  rintro e w2 ⟨rfl, hb2⟩
  rw [hok]
  have g1 := blk_on (heap_alloc2_old w (.cells #[.int .i64 st, .slice a data.length cap, .int .i64 lasts] 52) (.cells #[.int .i64 0, .slice none 0 0, .int .i64 0] 52)) hb2
  have g2 := blk_on (heap_alloc2_new w (.cells #[.int .i64 st, .slice a data.length cap, .int .i64 lasts] 52) (.cells #[.int .i64 0, .slice none 0 0, .int .i64 0] 52)) hb2
  have hbb := hb1.trans (hb2.mono (by simp; omega))
  clear hb1 hb2
  have r1 := range_of_block (cs := [Value.int .i64 st, .slice a data.length cap, .int .i64 lasts]) g1
  have hnz : decide ((b.length : Int) = 0) = false := decide_eq_false (by omega)
  have hnz2 : ((b.length : Int) == 0) = false := by
    rw [Bool.eq_false_iff]
    simp
    intro h0
    simp [h0] at hne
  go_wp2_with (refine wpList_load_at (by rfl) 52 (.tmp 3) rfl w.heap.size 0 (by rfl) [.int .i64 st, .slice a data.length cap, .int .i64 lasts] _ r1 Try.underlying52 rfl hi3 ?_)
  refine (takes_any st lasts a data.length cap _).mono ?_
  rintro e w3 ⟨rfl, hb3⟩
  rw [htk]
  have g3 := blk_on g1 hb3
  have g4 := blk_on g2 hb3
  have hb4 := hbb.trans (hb3.mono hbb.size)
  clear g1 g2 r1 hbb hb3 hnz hnz2
  have h3 := h.below hb4
  have hbt3 := hbt.below hb4
  have hwr : IntKind.i64.wrap (size - (data.length : Int)) = size - (data.length : Int) := IntWalk.i64_in _ (by omega)
  have hgt : decide (size - (data.length : Int) < (b.length : Int)) = false := decide_eq_false (by omega)
  have k1 : w3.cell? ⟨w.heap.size, 1, none⟩ = some (.slice a data.length cap) := (cell_of_block g3 1).trans rfl
  obtain ⟨i0, hi, hz0, hz1, hz2⟩ := info_parts info_u8
  obtain ⟨_, _, e3, _, hn3, hx3, _, hc3⟩ := h3.rw
  cases e3
  obtain ⟨_, _, eb, _, _, _, _, hcb⟩ := hbt3.rw
  cases eb
  have hnone : a = none → data.length = 0 ∧ data.length = 0 := fun h => by
    have := hn3 h
    omega
  have hold : ∀ x, a = some x → ∀ j u, (data.map bv)[j]? = some u → w3.cell? (x.add j) = some u := fun x hx j u hu => by
    have hj : data.length ≠ 0 := fun h0 => by
      rw [List.eq_nil_of_length_eq_zero h0] at hu
      simp at hu
    obtain ⟨b1, o1, ha, _, hr⟩ := hc3 hj
    rw [hx] at ha
    cases ha
    rw [Go.WideShapes.add_plain]
    exact hr j u hu
  have hnew : ∀ j u, (b.map bv)[j]? = some u → w3.cell? (ad.add j) = some u := fun j u hu => by
    obtain ⟨b1, o1, ha, _, hr⟩ := hcb (by omega)
    cases ha
    rw [Go.WideShapes.add_plain]
    exact hr j u hu
  clear h3 hbt3 hc3 hcb hn3
  obtain ⟨W, hW⟩ : ∃ W, w.heap.size = W := ⟨_, rfl⟩
  rw [hW] at g3 g4 k1 hb4 ⊢
  have hsz3 : W + 2 ≤ w3.heap.size := by have := block_lt g4; omega
  cases a with
  | none =>
    obtain ⟨h0, _⟩ := hnone rfl
    obtain rfl : data = [] := List.eq_nil_of_length_eq_zero h0
    go_wp2_with (first
      | (at_builtin
         refine wpList_append_grows _ (by rfl) (.tmp 44) (.tmp 45) 24 rfl 5 i0 (.int .u8 0) 1 1 Try.underlying24 hi hz0 hz1 hz2 rfl (by decide) none 0 0 [] (by rfl) (fun _ => ⟨rfl, rfl⟩) (by simp) (fun b hb => by cases hb) ad b.length c (b.map bv) (by rfl) (by simp) hnew (bv_one _) (by omega) (by unfold maxLen; omega) (by omega) ?_
         intro v5 w5 hown5 hg5
         rw [Nat.zero_add] at hown5
         obtain ⟨a5, c5, rfl, _⟩ := own_rw hown5
         have hb5 : Below w3.heap.size w3 w5 := (Below.refl _ w3).grown hg5 (Nat.le_refl _) (fun k hk => by cases hk)
         have g5 := blk_on g3 hb5
         have g6 := blk_on g4 hb5
         have z5 := thawed g5
         have k5 : w5.cell? ⟨W, 1, none⟩ = some (.slice none 0 cap) := (cell_of_block g5 1).trans rfl
         have e5 : (w5.setCell ⟨W, 1, none⟩ (.slice a5 (b.length) c5)).heap[W]? = some (.cells [Value.int .i64 st, .slice a5 (b.length) c5, .int .i64 lasts].toArray 52 (0, 0)) := (set_cell (j := 1) g5 (.slice a5 (b.length) c5)).blk
         have r5 := range_of_block e5)
      | (clear hi hz0 hz1 hz2; refine wpList_load_at (by rfl) 52 (.tmp 3) rfl W 0 (by rfl) [.int .i64 st, .slice a5 (b.length) c5, .int .i64 lasts] _ r5 Try.underlying52 rfl hi3 ?_))
    refine (filled_any st lasts size a5 (b.length) c5 s2 (by have := Hs2.out; rw [List.length_append] at this; simpa using this) _).mono ?_
    rintro e w7 ⟨rfl, hb7⟩
    have s5 := set_cell (j := 1) g5 (.slice a5 (b.length) c5)
    have g7 := blk_on ((s5.rest (W + 1) (by omega)).trans g6) hb7
    have hone := zv_one s2 lasts a5 (b.length) c5
    have hb8 : Below W w5 w7 := s5.bel.trans (hb7.mono (by rw [s5.size]; have := hb5.size; omega))
    have own7 := owns_below (own_on hown5 (fun k hk => s5.rest k (by omega))) hb7
    have hb9 : Below W w w7 := hb4.trans ((hb5.mono (by omega)).trans hb8)
    clear hb7 hb8 s5 e5 k5 z5 g5 g6 r5 hown5 hg5 hb4 hb5 k1 hnew hnone hold
    unfold zv
    go_wp2_with (refine wpList_lay (by rfl) 52 (.tmp 6) (.tmp 50) rfl (W + 1) #[.int .i64 s2, .slice a5 (b.length) c5, .int .i64 lasts] (by rfl) (by rfl) 52 _ g7 3 hi3 rfl rfl hone ?_; intro w9 hL9)
    refine bodyPost_ret (results_ct rfl _ _ (W + 1) _ _ _ 3 rfl hL9.blk Try.underlying52 rfl (by kernel_rfl) rfl) rfl ?_
    rw [hW]
    refine ⟨⟨.slice a5 (b.length) c5, rfl, ?_⟩, hb9.trans (hL9.bel.mono (by omega))⟩
    have own9 := owns_base (B' := W) (own_on own7 (fun k hk => hL9.rest k (by omega))) (by omega)
    simpa using own9
  | some a =>
    go_wp2_with (first
      | (at_builtin
         refine wpList_append_grows _ (by rfl) (.tmp 44) (.tmp 45) 24 rfl 5 i0 (.int .u8 0) 1 1 Try.underlying24 hi hz0 hz1 hz2 rfl (by decide) (some a) data.length data.length (data.map bv) (by rfl) (fun h => by cases h) (by simp) hold ad b.length c (b.map bv) (by rfl) (by simp) hnew (bv_one _) (by omega) (by unfold maxLen; omega) (by omega) ?_
         intro v5 w5 hown5 hg5
         obtain ⟨a5, c5, rfl, _⟩ := own_rw hown5
         have hb5 : Below w3.heap.size w3 w5 := (Below.refl _ w3).grown hg5 (Nat.le_refl _) (fun k hk => by cases hk)
         have g5 := blk_on g3 hb5
         have g6 := blk_on g4 hb5
         have z5 := thawed g5
         have k5 : w5.cell? ⟨W, 1, none⟩ = some (.slice (some a) data.length cap) := (cell_of_block g5 1).trans rfl
         have e5 : (w5.setCell ⟨W, 1, none⟩ (.slice a5 (data.length + b.length) c5)).heap[W]? = some (.cells [Value.int .i64 st, .slice a5 (data.length + b.length) c5, .int .i64 lasts].toArray 52 (0, 0)) := (set_cell (j := 1) g5 (.slice a5 (data.length + b.length) c5)).blk
         have r5 := range_of_block e5)
      | (clear hi hz0 hz1 hz2; refine wpList_load_at (by rfl) 52 (.tmp 3) rfl W 0 (by rfl) [.int .i64 st, .slice a5 (data.length + b.length) c5, .int .i64 lasts] _ r5 Try.underlying52 rfl hi3 ?_))
    refine (filled_any st lasts size a5 (data.length + b.length) c5 s2 (by have := Hs2.out; rw [List.length_append] at this; simpa using this) _).mono ?_
    rintro e w7 ⟨rfl, hb7⟩
    have s5 := set_cell (j := 1) g5 (.slice a5 (data.length + b.length) c5)
    have g7 := blk_on ((s5.rest (W + 1) (by omega)).trans g6) hb7
    have hone := zv_one s2 lasts a5 (data.length + b.length) c5
    have hb8 : Below W w5 w7 := s5.bel.trans (hb7.mono (by rw [s5.size]; have := hb5.size; omega))
    have own7 := owns_below (own_on hown5 (fun k hk => s5.rest k (by omega))) hb7
    have hb9 : Below W w w7 := hb4.trans ((hb5.mono (by omega)).trans hb8)
    clear hb7 hb8 s5 e5 k5 z5 g5 g6 r5 hown5 hg5 hb4 hb5 k1 hnew hnone hold
    unfold zv
    go_wp2_with (refine wpList_lay (by rfl) 52 (.tmp 6) (.tmp 50) rfl (W + 1) #[.int .i64 s2, .slice a5 (data.length + b.length) c5, .int .i64 lasts] (by rfl) (by rfl) 52 _ g7 3 hi3 rfl rfl hone ?_; intro w9 hL9)
    refine bodyPost_ret (results_ct rfl _ _ (W + 1) _ _ _ 3 rfl hL9.blk Try.underlying52 rfl (by kernel_rfl) rfl) rfl ?_
    rw [hW]
    refine ⟨⟨.slice a5 (data.length + b.length) c5, rfl, ?_⟩, hb9.trans (hL9.bel.mono (by omega))⟩
    have own9 := owns_base (B' := W) (own_on own7 (fun k hk => hL9.rest k (by omega))) (by omega)
    simpa using own9
end Go.Proofs.Ytdiokmaomglefaa
/- Zones: Read. -/
namespace Go.Proofs.Ytdiokmaomglefaa
open Go Go.RowKit

set_option linter.unusedSimpArgs false in
set_option maxRecDepth 100000 in
set_option maxHeartbeats 600000 in
theorem zread_any (st lasts : Int) (hst : st ≠ 4) (a : Option Addr) (n cap : Nat) (l : List UInt8) (w : World) (h : Bt w (.slice a n cap) l) (p m : Nat) (hm : 0 < m) (hpm : p + m ≤ l.length) :
    Calls Try.prog 40 #[zv st (.slice a n cap) lasts, .int .i64 p, .int .i64 m] w fun e w' => (∃ v, e = .returned (.tuple #[v, .int .i64 0]) ∧ w'.ownsRow w.heap.size 5 1 v m (((l.drop p).take m).map bv)) ∧ Below w.heap.size w w' := by
  obtain ⟨rfl, p1, p2, p3⟩ := h.len
  unfold maxLen at p2
  obtain ⟨b, off, rfl, hblt, hcell⟩ := h.where (by omega)
  have hpart := (h.part p m m hpm (Nat.le_refl _) (by unfold maxLen; omega))
  have hL : ((l.drop p).take m).length = m := by simp; omega
  generalize (l.drop p).take m = r at hpart hL ⊢
  have hb1 : Below w.heap.size w (w.alloc (.cells #[.int .i64 st, .slice (some ⟨b, off, none⟩) l.length cap, .int .i64 lasts] 52)) := (Below.refl _ w).alloc (Nat.le_refl _) _
  have h1 := hpart.below hb1
  have w1 : IntKind.i64.wrap ((p : Int) + (m : Int)) = (p : Int) + (m : Int) := IntWalk.i64_in _ (by omega)
  have w2 : IntKind.i64.wrap ((l.length : Int) - (p : Int)) = (l.length : Int) - (p : Int) := IntWalk.i64_in _ (by omega)
  have d1 : decide ((l.length : Int) < (p : Int)) = false := decide_eq_false (by omega)
  have d2 : decide ((l.length : Int) - (p : Int) < (m : Int)) = false := decide_eq_false (by omega)
  have d3 : (st == 4) = false := by simpa using hst
  have i1 : (p : Int) ≤ (p : Int) + (m : Int) := by omega
  have i2 : (p : Int) + (m : Int) ≤ (cap : Int) := by omega
  have i3 : (0 : Int) ≤ (p : Int) + (m : Int) := by omega
  have i4 : ((p : Int) + (m : Int)).toNat = p + m := by omega
  obtain ⟨i0, hi, hz0, hz1, hz2⟩ := info_parts info_u8
  have d4 : decide ((p : Int) < 0) = false := decide_eq_false (by omega)
  have d5 : decide ((m : Int) < 0) = false := decide_eq_false (by omega)
  have d6 : decide (l.length < p) = false := decide_eq_false (by omega)
  have hc : ∀ (o : Obj) (j : Nat) (u : Value), (r.map bv)[j]? = some u → ((w.alloc (.cells #[.int .i64 st, .slice (some ⟨b, off, none⟩) l.length cap, .int .i64 lasts] 52)).alloc o).cell? ((⟨b, off + p, none⟩ : Addr).add j) = some u := fun o j u hj => by
    have h2 := h1.below ((Below.refl _ _).alloc (Nat.le_refl _) o)
    obtain ⟨_, _, eb, _, _, _, _, hcb⟩ := h2.rw
    cases eb
    obtain ⟨b1, o1, ha, _, hr⟩ := hcb (by omega)
    cases ha
    rw [Go.WideShapes.add_plain]
    exact hr j u hj
  have HC := Lib.hid hc
  have HL := Lib.hid hL
  clear h hcell hst hpart hc h1 hL
  unfold zv
  go_enter Try.func40, Try.ntmps40
  go_wp2_with (at_builtin
               refine wpList_append_grows _ (by rfl) (.tmp 35) (.tmp 45) 24 rfl 5 i0 (.int .u8 0) 1 1 Try.underlying24 hi hz0 hz1 hz2 rfl (by decide) _ 0 0 [] (by rfl) (fun h => by cases h) (by simp) (fun b hb j u hj => by simp at hj) ⟨b, off + p, none⟩ m m (r.map bv) (by rfl) (by simp [HL.out]) (HC.out _) (bv_one _) (by omega) (by unfold maxLen; omega) (by omega) ?_
               intro v5 w5 hown5 hg5)
  go_ret2
  rw [Nat.zero_add, List.nil_append] at hown5
  exact ⟨⟨v5, rfl, owns_base hown5 (by simp; omega)⟩, hb1.trans ((((Below.refl _ _).alloc (Nat.le_refl _) _).grown hg5 (by simp) (fun k hk => by cases hk)).mono (by simp))⟩
end Go.Proofs.Ytdiokmaomglefaa
