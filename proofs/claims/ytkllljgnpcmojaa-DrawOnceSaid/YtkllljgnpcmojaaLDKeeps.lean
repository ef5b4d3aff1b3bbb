/- The walk of the law DrawKeeps. -/
import Derived.Test.YtkllljgnpcmojaaLDMore
import Derived.Test.YtkllljgnpcmojaaKeepNx
namespace Go.Proofs.Ytkllljgnpcmojaa
open Go Go.RowKit

/-- How many are taken is written into a source that lies in a block that is known. -/
theorem setUsed {w : World} {S : Nat} {a : Option Addr} {n c : Nat} {u v : Int} (h : w.heap[S]? = some (.cells #[.slice a n c, .int .i64 u] 24 (0, 0))) :
    (w.setCell ⟨S, 1, none⟩ (.int .i64 v)).heap[S]? = some (.cells #[.slice a n c, .int .i64 v] 24 (0, 0)) ∧ Below S w (w.setCell ⟨S, 1, none⟩ (.int .i64 v)) ∧ (w.setCell ⟨S, 1, none⟩ (.int .i64 v)).heap.size = w.heap.size := by
  refine ⟨?_, (Below.refl S w).setCell (Nat.le_refl _) _, by simp [World.setCell]⟩
  simp only [World.setCell]
  rw [Array.getElem?_modify, if_pos rfl, h]
  rfl

theorem thawed {w : World} {S : Nat} {cs : Array Value} {t : TypeId} (h : w.heap[S]? = some (.cells cs t (0, 0))) (j : Nat) : w.frozen? ⟨S, j, none⟩ = false := by
  simp [World.frozen?, h]

set_option maxHeartbeats 4000000 in
set_option maxRecDepth 100000 in
theorem drawKeeps_walk (b used : Int) (w : World) (w0 : (Lit.int .u8 b).wf = true) (_w1 : (Lit.int .i64 used).wf = true) :
    Calls Try.prog 7 #[.int .u8 b, .int .i64 used] w fun e w' => e = .returned (.bool true) ∧ Below w.heap.size w w' := by
  have hb := bounds_u8 w0
  obtain ⟨m, hm, hm2⟩ : ∃ m : Nat, b % 60 = (m : Int) ∧ m < 60 := ⟨(b % 60).toNat, by omega, by omega⟩
  have hm3 : Int.tmod b 60 = (m : Int) := by rw [Int.tmod_eq_emod_of_nonneg (by omega)]; exact hm
  clear w0
  go_enter Try.func7, Try.ntmps7
  go_wp2_with fail
  refine (awake8_any _).mono ?_
  rintro e w1 ⟨rfl, hb1⟩
  go_wp2_with fail
  refine (source_any m w1 (by omega)).mono ?_
  rintro e w2 ⟨⟨v, rfl, hv⟩, hb2⟩
  have hk2 : Ks w2 v (nks m) := hv
  obtain ⟨a, c, rfl, _⟩ := id hk2
  rw [nks_length] at hk2 ⊢
  have hB2 := hb1.trans (hb2.mono hb1.size)
  clear hv hb1 hb2
  go_wp2_with (first | ((refine wpList_lay_src (by rfl) _ _ (by rfl) w2.heap.size a m c 0 _ (heap_alloc_new w2 _) (by rfl) (by rfl) (by rfl) ?_); intro w3 hs3 hb3 hz3; obtain ⟨hs4, hb4, hz4⟩ := setUsed (v := used) hs3; have hfz : w3.frozen? ⟨w2.heap.size, 1, none⟩ = false := thawed hs3 1; obtain ⟨c0, c1⟩ := src_on hs3 (Below.refl _ w3); obtain ⟨d0, d1⟩ := src_on hs4 (Below.refl _ _)))
  have hB4 := hB2.trans ((((Below.refl _ w2).alloc (Nat.le_refl _) (.cells #[.slice none 0 0, .int .i64 0] 24)).trans (hb3.trans hb4)).mono hB2.size)
  have hk4 := hk2.below (((Below.refl _ w2).alloc (Nat.le_refl _) (.cells #[.slice none 0 0, .int .i64 0] 24)).trans (hb3.trans hb4))
  have hz4' : (w3.setCell ⟨w2.heap.size, 1, none⟩ (.int .i64 used)).heap.size = w2.heap.size + 1 := by rw [hz4, hz3]; simp
  clear hz4 hz3 hb3 hb4 hfz c0 c1 d0 d1 hs3 hk2 hB2
  obtain ⟨S, hS⟩ : ∃ S, w2.heap.size = S := ⟨_, rfl⟩
  rw [hS] at hs4 hk4 hB4 hz4' ⊢
  generalize w3.setCell ⟨S, 1, none⟩ (.int .i64 used) = w4 at *
  clear hS
  have hle := un_le used m
  refine (left_any a m c used w4 (by omega)).mono ?_
  rintro e w5 ⟨rfl, hb5⟩
  obtain ⟨q, hq⟩ : ∃ q, m - un used m = q := ⟨_, rfl⟩
  rw [hq]
  obtain ⟨c0, c1⟩ := src_on hs4 hb5
  go_wp2_with (first | ((refine wpList_lay_src (by rfl) _ _ (by rfl) w5.heap.size a m c used _ (heap_alloc_new w5 _) (by rfl) (by rfl) (by rfl) ?_); intro w6 hs6 hb6 hz6))
  have hk5 := hk4.below hb5
  have hS5 := blk_on hs4 hb5
  have hB5 := hB4.trans (hb5.mono hB4.size)
  have hb56 := ((Below.refl _ w5).alloc (Nat.le_refl _) (.cells #[.slice none 0 0, .int .i64 0] 24)).trans hb6
  have hz6' : w5.heap.size < w6.heap.size := by rw [hz6]; simp
  clear c0 c1 hb5 hb6 hz6 hk4 hs4 hB4 hz4'
  obtain ⟨T, hT⟩ : ∃ T, w5.heap.size = T := ⟨_, rfl⟩
  have HT := Lib.hid hT
  rw [hT] at hs6 hb56 hz6'
  rw [hT]
  clear hT
  go_loopw [9] (fun i wr => ∃ j : Nat, j ≤ q ∧ i = .int .i64 j ∧ wr.heap[T]? = some (.cells #[.slice a m c, .int .i64 (uat used m j)] 24 (0, 0)) ∧ Below T w5 wr ∧ T < wr.heap.size) (fun i _ => q - (intOf i).toNat)
  case atStart => exact ⟨0, by omega, rfl, hs6, hb56, hz6'⟩
  case round =>
    obtain ⟨j, hj, rfl, hTr, hbr, hsr⟩ := hrel
    have hbr' : Below w5.heap.size w5 wr := by rw [HT.out]; exact hbr
    have hkr := hk5.below hbr'
    have hSr := blk_on hS5 hbr'
    obtain ⟨c0, c1⟩ := src_on hTr (Below.refl _ wr)
    by_cases hlt : j < q
    · have hnx := nx_uat used m j (by omega) (by omega)
      have HN := Lib.hid hnx
      have HQ := Lib.hid hq
      have hq60 : q ≤ 60 := by omega
      clear hnx hq hm hm3 hle
      go_wp2_with fail
      refine (next_any a m c (nks m) (uat used m j) wr hkr).mono ?_
      rintro e w7 ⟨rfl, hb7⟩
      rw [HN.out]
      obtain ⟨k, hk⟩ : ∃ k, nk (un used m + j) = k := ⟨_, rfl⟩
      rw [hk]
      clear hk HN c0 c1
      go_wp2_with (first
        | ((refine wpList_lay_key (by rfl) _ _ (by rfl) k w7 _ _ (by rfl) (by rfl) (by rfl) (by rfl) ?_); intro w8 hk8 hs8 hb8 hz8)
        | ((refine wpList_lay_src (by rfl) _ _ (by rfl) (w7.heap.size + 1) a m c (uat used m (j + 1)) _ hs8 (by rfl) (by rfl) (by rfl) ?_); intro w9 hs9 hb9 hz9; have hb79 := hb8.trans (hb9.mono (by omega)); have hb19 := hb7.trans (hb79.mono hb7.size); obtain ⟨c0, c1⟩ := src_on hs9 (Below.refl _ w9); obtain ⟨d0, d1⟩ := src_on hSr hb19; have hT9 := blk_on hTr hb19)
        | ((refine wpList_lay_src (by rfl) _ _ (by rfl) T a m c (uat used m (j + 1)) _ hT9 (by rfl) (by rfl) (by rfl) ?_); intro w10 hs10 hb10 hz10))
      go_roundw
      case rel => exact ⟨j + 1, by omega, congrArg (Value.int .i64) (by omega), hs10, hbr.trans ((hb19.mono (by omega)).trans hb10), by have := hb19.size; omega⟩
      case measure =>
        show q - ((j : Int) + 1).toNat < q - (j : Int).toNat
        omega
    · obtain rfl : j = q := by omega
      have hnx := nx_uat_end used m
      rw [hq] at hnx
      have hue := un_uat used m j (by omega)
      have hun : un (uat used m j) m = m := by omega
      have hqi : (j : Int) = (m : Int) - min (max used 0) (m : Int) := by have := un_int used m; omega
      have HN := Lib.hid hnx
      clear hnx hq hm hm3 hue
      go_wp2_with fail
      refine (next_any a m c (nks m) (uat used m j) wr hkr).mono ?_
      rintro e w7 ⟨rfl, hb7⟩
      rw [HN.out]
      clear HN c0 c1
      go_wp2_with (first
        | ((refine wpList_lay_key (by rfl) _ _ (by rfl) k0 w7 _ _ (by rfl) (by rfl) (by rfl) (by rfl) ?_); intro w8 hk8 hs8 hb8 hz8)
        | ((refine wpList_lay_src (by rfl) _ _ (by rfl) (w7.heap.size + 1) a m c (uat used m j) _ hs8 (by rfl) (by rfl) (by rfl) ?_); intro w9 hs9 hb9 hz9; have hb79 := hb8.trans (hb9.mono (by omega)); have hb19 := hb7.trans (hb79.mono hb7.size); obtain ⟨c0, c1⟩ := src_on hTr hb19; obtain ⟨d0, d1⟩ := src_on hSr hb19))
      have hT9 := blk_on hTr hb19
      have hS9 := blk_on hSr hb19
      have hk9 := hkr.below hb19
      have hbr9 := hbr'.trans (hb19.mono hbr'.size)
      clear hk8 hs8 hb8 hz8 hs9 hb9 hz9 hb79 hb7 hTr hSr hkr hbr
      refine (left_any a m c (uat used m j) w9 (by omega)).mono ?_
      rintro e w10 ⟨rfl, hb10⟩
      rw [hun, Nat.sub_self]
      clear c0 c1 d0 d1
      obtain ⟨c0, c1⟩ := src_on hT9 hb10
      obtain ⟨d0, d1⟩ := src_on hS9 hb10
      have hk10 := hk9.below hb10
      have hS10 := blk_on hS9 hb10
      have hbr10 := hB5.trans ((hbr9.trans (hb10.mono hbr9.size)).mono hB5.size)
      clear hb10 hT9 hS9 hk9 hbr9 hbr'
      go_wp2_with fail
      refine (all_is _ _ _ _ _ _ (nks m) (nks m) true (by simp) _ hk10 hk10).mono ?_
      rintro e w11 ⟨rfl, hb11⟩
      have hBe := hbr10.trans (hb11.mono hbr10.size)
      clear hk10 hbr10 c0 c1
      clear d0 d1
      obtain ⟨d0, d1⟩ := src_on hS10 hb11
      clear hS10 hb11
      go_wp2
      go_ret
      exact ⟨rfl, hBe⟩
end Go.Proofs.Ytkllljgnpcmojaa
