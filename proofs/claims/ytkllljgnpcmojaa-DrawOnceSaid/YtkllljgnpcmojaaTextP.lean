/- The text of keys: the program's. -/
import Derived.Test.YtkllljgnpcmojaaTextD
namespace Go.Proofs.Ytkllljgnpcmojaa
open Go Go.RowKit

theorem builder_at_below {T e : TypeId} {B b : Nat} {p : Value} {bs : List Value} {W W' : World} (h : Lib.BuilderAtF T e B b p bs W) (hb : Below W.heap.size W W') : Lib.BuilderAtF T e B b p bs W' := by
  obtain ⟨hB, v, hv, hown, hne⟩ := h
  exact ⟨hB, v, (hb.block b (block_lt hv)).trans hv, hown.kept (row := none) ⟨hb.os, hb.tape, hb.output, hb.size, fun k hk _ => hb.block k hk⟩ (Classical.em _), hne⟩
theorem builder_below {T e : TypeId} {B b : Nat} {bs : List Value} {W W' : World} (h : Lib.IsBuilderF T e B b bs W) (hb : Below W.heap.size W W') : Lib.IsBuilderF T e B b bs W' :=
  h.elim (fun x => .inl (builder_at_below x hb)) (fun x => .inr (builder_at_below x hb))
theorem rune_cells (x : UInt8) (h : x.toNat < 128) : Lib.runeCells (x.toNat : Int) = Lib.byteCells [x] := by
  rw [Lib.runeCells, Lib.encodeRuneZ_one (by omega) (by omega)]
  rfl
theorem hexOf_ascii (l : List UInt8) : ∀ b ∈ hexOf l, b.toNat < 128 := fun b hb => by
  have := isd_lt (digits_hexOf l b hb)
  omega
theorem str_at (l : List UInt8) (S : ByteArray) (hS : S = ⟨l.toArray⟩) (ha : ∀ b ∈ l, b.toNat < 128) (k : Nat) (hk : k < S.size) : (S[k]'hk).toNat < 128 ∧ l.take (k + 1) = l.take k ++ [S[k]'hk] := by
  subst hS
  have hl : k < l.length := by simpa [ByteArray.size] using hk
  have e : (ByteArray.mk l.toArray)[k]'hk = l[k] := rfl
  rw [e]
  exact ⟨ha _ (List.getElem_mem hl), take_snoc l k hl⟩

set_option maxRecDepth 100000 in
set_option maxHeartbeats 2000000 in
theorem textd_any (a : Option Addr) (n cap : Nat) (l : List Key) (w : World) (h : Ks w (.slice a n cap) l) (hl : l.length ≤ 1000000) :
    Calls Try.prog 19 #[.slice a n cap] w fun e w' => e = .returned (.string ⟨(dtext l).toArray⟩) ∧ Below w.heap.size w w' := by
  obtain ⟨rfl, p1, p2, p3⟩ := h.len
  go_enter Try.func19, Try.ntmps19
  go_wp2_with fail
  go_loopw [10] (fun i wr => ∃ j : Nat, j ≤ l.length ∧ i = .int .i64 j ∧ Lib.IsBuilderF 51 5 w.heap.size w.heap.size (Lib.byteCells (dtext (l.take j))) wr ∧ Below w.heap.size w wr ∧ w.heap.size < wr.heap.size) (fun i _ => l.length - (intOf i).toNat)
  case atStart => exact ⟨0, by omega, rfl, Lib.IsBuilderF.of (Lib.fresh_isBuilder 51 5 w), (Below.refl _ w).alloc (Nat.le_refl _) _, by simp⟩
  case round =>
    obtain ⟨j, hj, rfl, hI, hbw, hsw⟩ := hrel
    by_cases hlt : j < l.length
    · obtain ⟨y, hy⟩ : ∃ y, l[j]? = some y := ⟨_, List.getElem?_eq_getElem hlt⟩
      obtain ⟨b, off, rfl, hb, hry⟩ := h.at j y hy
      have hrw := range_below hry hbw hb
      have i1 : (0 : Int) ≤ (j : Int) := by omega
      have i2 : (j : Int) < (l.length : Int) := by omega
      have hT : dtext (l.take (j + 1)) = (dtext (l.take j) ++ hexOf y.1) ++ [10] := by
        have e : l[j] = y := by have := hy; rw [List.getElem?_eq_getElem hlt] at this; exact Option.some.inj this
        rw [take_snoc l j hlt, dtext_append, e, List.append_assoc]
        simp [dtext]
      have q1 : (dtext (l.take j)).length = 65 * j := by rw [dtext_length, List.length_take, Nat.min_eq_left hj]
      have HT := Lib.hid hT
      have Hq := Lib.hid q1
      have Hh := Lib.hid h
      clear hy hry hT h q1
      obtain ⟨wo, hwo⟩ : ∃ wo, wo = wr := ⟨_, rfl⟩
      subst hwo
      go_wp2_with (first
        | (refine wpList_load_at (by rfl) 26 _ rfl b (off + j * 32) rfl (kc y) _ hrw Try.underlying26 rfl (key_info y) ?_)
        | ((refine wpList_store_new (by rfl) _ _ (by rfl) y wo _ (by rfl) (by rfl) (by rfl) (by rfl) ?_); intro w5 hD hb5 hs5)
        | (go_at_call 30; refine (text_any _ y.1 _ (key_bs (range_of_block hD) (by omega)) (by rw [y.2]; decide)).mono ?_; rintro e w6 ⟨rfl, hb6⟩))
      have hb56 : Below wo.heap.size wo w6 := hb5.trans (hb6.mono (by omega))
      have hI6 := builder_below hI hb56
      have hbw6 : Below w.heap.size w w6 := hbw.trans (hb56.mono hbw.size)
      have hs6 := hb6.size
      obtain ⟨S, hS⟩ : ∃ S : ByteArray, S = ⟨(hexOf y.1).toArray⟩ := ⟨_, rfl⟩
      rw [← hS]
      have HS := Lib.hid hS
      have hsz : S.size = 64 := by rw [hS]; simp [ByteArray.size, length_hexOf, y.2]
      clear hI hb5 hb6 hb56 hD hS hrw
      go_loopw [7] (fun _ wr => ∃ pos : Nat, pos ≤ 64 ∧ wr.heap[w6.heap.size]? = some (.stringIter S pos) ∧ Lib.IsBuilderF 51 5 w.heap.size w.heap.size (Lib.byteCells (dtext (l.take j) ++ (hexOf y.1).take pos)) wr ∧ Below w.heap.size w wr) (fun _ wr => 64 - wr.iterPos w6.heap.size)
      case atStart => exact ⟨0, by omega, World.iter_heap w6 S 0, by rw [List.take_zero, List.append_nil]; exact hI6.alloc _, hbw6.alloc hbw6.size _⟩
      case round =>
        obtain ⟨pos, hpos, hit, hIr, hbr⟩ := hrel
        have hM : Hid (wr.iterPos w6.heap.size = pos) := by show _ = _; simp only [World.iterPos, hit]
        by_cases hp : pos < S.size
        · obtain ⟨hx1, hx2⟩ := str_at _ S HS.out (hexOf_ascii y.1) pos hp
          have hnx : ∀ ty, (Instr.next (.pointer (some ⟨w6.heap.size, 0, none⟩)) true ty).run Try.prog wr = _ := fun ty => Lib.run_next_ascii_at wr w6.heap.size S pos ty hit hp hx1
          obtain ⟨x, hx⟩ : ∃ x, S[pos]'hp = x := ⟨_, rfl⟩
          rw [hx] at hx1 hx2 hnx
          have hI2 := hIr.iterAt hit (pos + 1)
          have hit2 := Lib.iterAt_heap wr w6.heap.size S pos (pos + 1) hit
          have hb2 := Lib.below_iterAt hbr (k := w6.heap.size) (by omega) S (pos + 1)
          obtain ⟨w7, hw7⟩ : ∃ w7, wr.iterAt w6.heap.size S (pos + 1) = w7 := ⟨_, rfl⟩
          rw [hw7] at hI2 hit2 hb2
          simp only [hw7] at hnx
          have HX2 := Lib.hid hx2
          have hq := Hq.out
          clear hit hIr hbr hx hw7 hx2
          go_wp2_with fail
          refine (Try.Builder_WriteRune_k _ _ _ _ (by omega) (by omega) _ hI2 (by rw [Lib.byteCells_length, List.length_append, List.length_take, length_hexOf, y.2]; omega) hb2.size).mono ?_
          rintro e w8 ⟨rfl, h8, hb8, hk8⟩
          have hit8 := hk8.iter hit2 (by omega)
          have hB8 := hb2.trans hb8
          rw [rune_cells x hx1, ← Lib.byteCells_append, List.append_assoc, ← HX2.out] at h8
          have H8 := Lib.hid h8
          clear h8 hk8 hnx hI2 hit2
          go_wp2
          go_roundw
          case rel => exact ⟨pos + 1, by omega, hit8, Or.inr H8.out, hB8⟩
          case measure =>
            rw [hM.out, show w8.iterPos w6.heap.size = pos + 1 by simp only [World.iterPos, hit8]]
            omega
        · have hnx : ∀ ty, (Instr.next (.pointer (some ⟨w6.heap.size, 0, none⟩)) true ty).run Try.prog wr = _ := fun ty => Lib.run_next_end_at wr w6.heap.size S pos ty hit hp
          rw [List.take_of_length_le (l := hexOf y.1) (by rw [length_hexOf, y.2]; omega)] at hIr
          have hq := Hq.out
          clear hit
          go_wp2_with fail
          refine (Try.Builder_WriteRune_k _ _ _ _ (by omega) (by omega) _ hIr (by rw [Lib.byteCells_length, List.length_append, length_hexOf, y.2]; omega) hbr.size).mono ?_
          rintro e w8 ⟨rfl, h8, hb8, hk8⟩
          have hB8 := hbr.trans hb8
          rw [show Lib.runeCells 10 = Lib.byteCells [10] from rune_cells 10 (by decide), ← Lib.byteCells_append, ← HT.out] at h8
          have H8 := Lib.hid h8
          have hs8 := hb8.size
          have hsr := hbr.size
          have hlt8 : w.heap.size < w8.heap.size := by
            obtain ⟨_, v, hv, _⟩ := h8
            exact block_lt hv
          clear h8 hk8 hnx hIr
          go_wp2
          go_roundw
          case rel => exact ⟨j + 1, by omega, by go_num, Or.inr H8.out, hB8, hlt8⟩
          case measure => simp [intOf]; omega
    · clear h
      go_wp2_with fail
      refine (Try.Builder_String_any_k _ _ _ _ hI hbw.size).mono ?_
      rintro e w1 ⟨rfl, h1, hb1, hk1⟩
      go_wp2
      go_ret
      rw [List.take_of_length_le (by omega)]
      exact ⟨rfl, hbw.trans hb1⟩
end Go.Proofs.Ytkllljgnpcmojaa
