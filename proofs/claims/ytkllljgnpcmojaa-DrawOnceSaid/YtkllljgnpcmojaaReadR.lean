/- The draws that a text is: the reference's. -/
import Derived.Test.YtkllljgnpcmojaaRead
namespace Go.Proofs.Ytkllljgnpcmojaa
open Go Go.RowKit

/-- A key of which i bytes are there. -/
def pk (y : Key) (i : Nat) : Key := ⟨(y.1.take i ++ List.replicate 32 0).take 32, by simp⟩
theorem pk_zero (y : Key) : pk y 0 = k0 := by apply Subtype.ext; simp [pk, k0]
theorem pk_all (y : Key) : pk y 32 = y := by
  apply Subtype.ext
  unfold pk
  simp only
  rw [List.take_append_of_le_length (by rw [List.length_take, y.2]; decide), List.take_take, List.take_of_length_le (by rw [y.2]; decide)]
theorem pk_at (y : Key) (i j : Nat) (hj : j < 32) : (pk y i).1[j]? = if j < i then y.1[j]? else some 0 := by
  unfold pk
  simp only
  rw [List.getElem?_take, if_pos hj]
  by_cases h : j < i
  · rw [if_pos h, List.getElem?_append_left (by rw [List.length_take, y.2]; omega), List.getElem?_take, if_pos h]
  · rw [if_neg h, List.getElem?_append_right (by rw [List.length_take, y.2]; omega), List.getElem?_replicate, if_pos (by rw [List.length_take, y.2]; omega)]
theorem pk_step (y : Key) (i : Nat) (hi : i < 32) : (kc (pk y i)).toArray.setIfInBounds i (bv (y.1[i]'(by rw [y.2]; exact hi))) = (kc (pk y (i + 1))).toArray := by
  apply Array.ext_getElem?
  intro j
  rw [Array.getElem?_setIfInBounds]
  simp only [List.getElem?_toArray, List.size_toArray, kc_length]
  by_cases hj : j < 32
  · have e1 : ∀ i, (kc (pk y i))[j]? = (if j < i then y.1[j]? else some 0).map bv := fun i => by rw [kc, List.getElem?_map, pk_at y i j hj]
    rw [e1, e1]
    by_cases h : i = j
    · subst h
      rw [if_pos rfl, if_pos hi, if_pos (by omega), List.getElem?_eq_getElem (by rw [y.2]; exact hi)]
      rfl
    · rw [if_neg h]
      by_cases h2 : j < i
      · rw [if_pos h2, if_pos (by omega)]
      · rw [if_neg h2, if_neg (by omega)]
  · have e1 : ∀ i, (kc (pk y i))[j]? = none := fun i => List.getElem?_eq_none (by rw [kc_length]; omega)
    rw [e1, e1, if_neg (by omega)]

set_option maxRecDepth 100000 in
set_option maxHeartbeats 4000000 in
theorem refread_any (s : ByteArray) (w : World) (hs : s.size ≤ 1000000) :
    Calls Try.prog 12 #[.string s] w fun e w' => KReads (scan (-1) s.data.toList) e w' ∧ Below w.heap.size w w' := by
  obtain ⟨o, ho⟩ : ∃ o, scan (-1) s.data.toList = o := ⟨_, rfl⟩
  rw [ho]
  have HO := Lib.hid ho
  go_enter Try.func12, Try.ntmps12
  go_wp2_with fail
  refine (refbytes_any s _ (by omega)).mono ?_
  rintro e w1 ⟨hr, hb1⟩
  rw [ho] at hr
  clear ho
  rcases hr with ⟨b, v, rfl, rfl, hown⟩ | ⟨rfl, rfl⟩
  · have hbl : b.length ≤ 1000000 := by
      have h1 := scan_len _ _ _ HO.out
      have h2 : s.data.toList.length = s.size := rfl
      omega
    clear HO
    have hform := hown.2
    by_cases h32 : b.length % 32 = 0
    · have g1 : (((b.length : Int) % 32) != 0) = false := bne_eq_false_iff_eq.2 (by omega)
      rcases hform with ⟨rfl, h0⟩ | ⟨g, cp, cur, rfl, hgB, hh, hcn, hcm, _, _⟩
      · obtain rfl : b = [] := List.eq_nil_of_length_eq_zero h0
        have HK : Hid (KReads (some ([] : List UInt8)) (.returned (.tuple #[.slice none 0 0, .int .i64 0])) w1) := Or.inr (Or.inr ⟨[], _, rfl, rfl, rfl, ks_nil _⟩)
        clear hown
        go_wp2_with fail
        go_loopw [6, 7] (fun v2 x wr => v2 = .slice none 0 0 ∧ x = .int .i64 0 ∧ wr = w1) (fun _ _ _ => 0)
        case atStart => exact ⟨rfl, rfl, rfl⟩
        case round =>
          obtain ⟨rfl, rfl, rfl⟩ := hrel
          go_wp2
          go_ret2
          exact ⟨HK.out, hb1⟩
      · obtain ⟨m, hm⟩ : ∃ m, b.length = 32 * m := ⟨b.length / 32, by omega⟩
        have hs1 := hb1.size
        have hlt := block_lt hh
        have HM := Lib.hid hm
        have Hown := Lib.hid hown
        clear hown hh hm
        go_wp2_with fail
        go_loopw [6, 7] (fun v2 x wr => ∃ (i o : Nat), i ≤ m ∧ o = 32 * i ∧ x = .int .i64 o ∧ wr.ownsRow w1.heap.size 26 32 v2 i (kcs (chunks b i)) ∧ Below w1.heap.size w1 wr) (fun _ x _ => b.length + 1 - (intOf x).toNat)
        case atStart => exact ⟨0, 0, by omega, rfl, rfl, World.ownsRow_nil _ _ _ _, Below.refl _ _⟩
        case round =>
          obtain ⟨i, o, hi, ho, rfl, hown2, hbr⟩ := hrel
          have hm := HM.out
          have Hm := Lib.hid hm
          have Ho := Lib.hid ho
          by_cases hlt2 : i < m
          · have i5 : i ≤ 1000000 := by omega
            have i6 : o + 32 ≤ b.length := by omega
            have i7 : (o : Int) < (b.length : Int) := by omega
            obtain ⟨y, hy⟩ : ∃ y, mkKey (b.drop o) = y := ⟨_, rfl⟩
            have hrg : wr.rangeAt g o (kc y) := hy ▸ range_below (key_range Hown.out i6) hbr hlt
            have hk32 := kc_length y
            have Hy := Lib.hid hy
            clear ho hm hy
            obtain ⟨wo, hwo⟩ : ∃ wo, wo = wr := ⟨_, rfl⟩
            subst hwo
            go_wp2_with ((refine wpList_store_fresh (by rfl) _ _ (by rfl) k0 wo _ wo.heap.size (by rfl) (by rfl) (by rfl) (by rfl) (by exact congrArg Value.agg kc_zero) ?_); intro w5 hD hb5 hs5)
            go_loopw [9] (fun x wr => ∃ k : Nat, k ≤ 32 ∧ x = .int .i64 k ∧ wr.heap[wo.heap.size]? = some (.cells (kc (pk y k)).toArray 26 (0, 0)) ∧ Below wo.heap.size wo wr) (fun x _ => 32 - (intOf x).toNat)
            case atStart => exact ⟨0, by omega, rfl, by rw [pk_zero]; exact hD, hb5⟩
            case round =>
              obtain ⟨k, hk, rfl, hDi, hbi⟩ := hrel
              by_cases hk2 : k < 32
              · obtain ⟨x, hx⟩ : ∃ x, y.1[k]'(by rw [y.2]; exact hk2) = x := ⟨_, rfl⟩
                have hst := pk_step y k hk2
                rw [hx] at hst
                have hkk : (kc y)[k]? = some (bv x) := by rw [kc, List.getElem?_map, List.getElem?_eq_getElem (by rw [y.2]; exact hk2), hx]; rfl
                have hcb : wr.cell? ⟨g, o + k, none⟩ = some (.int .u8 x.toNat) := (hbi.cell (p := ⟨g, o + k, none⟩) (by have := hbr.size; show g < _; omega)).trans (hrg k _ hkk)
                have hD2 := (heap_setCell_same wr wo.heap.size k _ _ (bv x) hDi).trans (congrArg (fun c => some (Obj.cells c _ (0, 0))) hst)
                have hB2 : Below wo.heap.size wo (wr.setCell ⟨wo.heap.size, k, none⟩ (bv x)) := hbi.setCell (p := ⟨wo.heap.size, k, none⟩) (Nat.le_refl _) _
                have hfz : wr.frozen? ⟨wo.heap.size, k, none⟩ = false := frozen_of_row wr wo.heap.size k _ _ hDi
                obtain ⟨v0, hv0⟩ : ∃ v0, wr.cell? ⟨wo.heap.size, k, none⟩ = some v0 := ⟨(kc (pk y k)).toArray[k]'(by rw [kc_size]; exact hk2), by rw [cell_of_block hDi]; simp [kc_length, hk2]⟩
                have i8 : (k : Int) < 32 := by omega
                have i9 : (o : Int) + (k : Int) < (b.length : Int) := by omega
                have i10 : (0 : Int) ≤ (o : Int) + (k : Int) := by omega
                have hwr : IntKind.i64.wrap ((o : Int) + (k : Int)) = (o : Int) + (k : Int) := IntWalk.i64_in _ (by omega)
                clear hst hkk hx hDi hbi
                go_wp2
                go_roundw
                case rel => exact ⟨k + 1, by omega, by go_num, hD2, hB2⟩
                case measure => simp [intOf]; omega
              · obtain rfl : k = 32 := by omega
                rw [pk_all] at hDi
                have hDl : wo.heap.size < wr.heap.size := block_lt hDi
                have hsw := hbr.size
                go_wp2_with (first
                  | (refine wpList_load_at (by rfl) 26 _ rfl wo.heap.size 0 rfl (kc y) _ (range_of_block hDi) Try.underlying26 rfl (key_info _) ?_)
                  | (at_builtin
                     rw [fold_key y _ rfl]
                     have hownA := owns_below hown2 (hbi.alloc (Nat.le_of_lt hDl) (.cells (kc y).toArray 26))
                     have hksA := key_slice wr y
                     refine wpList_append_ks _ rfl (.tmp 41) (.tmp 43) rfl w1.heap.size _ i _ rfl hownA _ [y] rfl hksA (by simp; omega) (by simp; omega) ?_
                     intro v8 w8 hown8 hg8 _
                     have hb8 : Below w1.heap.size w1 w8 := (hbr.trans ((hbi.alloc (Nat.le_of_lt hDl) _).mono hsw)).grown hg8 (by simp; omega) (fun k hk => (hownA.lt k hk).1)
                     clear hownA hksA hg8))
                go_roundw
                case rel =>
                  have hm := Hm.out
                  have ho := Ho.out
                  refine ⟨i + 1, o + 32, by omega, by omega, by go_num, ?_, hb8⟩
                  rw [chunks_succ, kcs_append, ← ho, Hy.out]
                  exact hown8
                case measure =>
                  have hm := Hm.out
                  simp [intOf]
                  omega
          · obtain rfl : i = m := by omega
            have hks := own_ks (l := chunks b i) (by rw [chunks_length]; exact hown2) (by rw [chunks_length]; omega)
            have HK : Hid (KReads (some b) (.returned (.tuple #[u6, .int .i64 0])) wr) := Or.inr (Or.inr ⟨b, _, rfl, h32, rfl, by rw [show b.length / 32 = i by omega]; exact hks⟩)
            have i7 : (b.length : Int) ≤ (o : Int) := by omega
            clear ho hm hks
            go_wp2
            go_ret2
            exact ⟨HK.out, hb1.trans (hbr.mono hs1)⟩
    · have g1 : (((b.length : Int) % 32) != 0) = true := bne_iff_ne.2 (by omega)
      have HK : Hid (KReads (some b) (.returned (.tuple #[.slice none 0 0, .int .i64 80])) w1) := Or.inr (Or.inl ⟨b, rfl, h32, rfl⟩)
      rcases hform with ⟨rfl, h0⟩ | ⟨g, cp, cur, rfl, hgB, hh, hcn, hcm, _, _⟩
      · exact absurd h0 (by omega)
      · clear hown hh
        go_wp2
        go_ret2
        exact ⟨HK.out, hb1⟩
  · go_wp2
    go_ret2
    exact ⟨Or.inl ⟨rfl, rfl⟩, hb1⟩
end Go.Proofs.Ytkllljgnpcmojaa
