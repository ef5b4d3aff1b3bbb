/- hex.Text and the document's Text: the text of bytes. -/
import Derived.Test.YtkllljgnpcmojaaDigit
import Derived.Test.YtkllljgnpcmojaaBuild
namespace Go.Proofs.Ytkllljgnpcmojaa
open Go Go.RowKit

set_option maxHeartbeats 400000 in
set_option maxRecDepth 100000 in
theorem text_any (v : Value) (l : List UInt8) (w : World) (hv : Bs w v l) (hl : l.length ≤ 35184372088832) :
    Calls Try.prog 30 #[v] w fun e w' => e = .returned (.string ⟨(hexOf l).toArray⟩) ∧ Below w.heap.size w w' := by
  obtain ⟨a, cap, rfl, _, _, hcell⟩ := hv
  go_enter Try.func30, Try.ntmps30
  go_wp2
  go_loopw [5, 8] (fun x i wr => ∃ k : Nat, k ≤ l.length ∧ i = .int .i64 k ∧ Lib.IsBuilderF 51 5 w.heap.size w.heap.size (Lib.byteCells (hexOf (l.take k))) wr ∧ Below w.heap.size w wr) (fun _ i _ => l.length - (intOf i).toNat)
  case atStart => exact ⟨0, by omega, rfl, Lib.IsBuilderF.of (Lib.fresh_isBuilder 51 5 w), (Below.refl _ w).alloc (Nat.le_refl _) _⟩
  case round =>
    obtain ⟨k, hk, rfl, hI, hbw⟩ := hrel
    by_cases hlt : k < l.length
    · obtain ⟨b, off, ha, hb, hc⟩ := hcell (by intro h; simp [h] at hlt)
      subst ha
      obtain ⟨x, hx⟩ : ∃ x, l[k] = x := ⟨_, rfl⟩
      have hc1 : wr.cell? ⟨b, off + k, none⟩ = some (.int .u8 x.toNat) := (hbw.cell (p := ⟨b, off + k, none⟩) hb).trans (by rw [hc k hlt, List.getElem?_eq_getElem hlt, hx]; rfl)
      have HT := Lib.hid (show hexOf (l.take (k + 1)) = (hexOf (l.take k) ++ [dg (x.toNat / 16)]) ++ [dg (x.toNat % 16)] by rw [take_snoc l k hlt, hexOf_snoc, hx])
      have hlen : (hexOf (l.take k)).length ≤ 2 * k := by rw [length_hexOf, List.length_take]; omega
      have hx1 : (x.toNat : Int) < 256 := by have := x.toNat_lt; omega
      clear hcell hc hx
      have hd := fun n h => dg_at n h
      go_wp2_with fail
      refine (Try.Builder_WriteByte_k _ _ _ _ _ hI (by rw [Lib.byteCells_length]; omega) hbw.size).mono ?_
      rintro e w1 ⟨rfl, h1, hb1, hk1⟩
      have hsz1 := (hbw.trans hb1).size
      go_wp2_with fail
      refine (Try.Builder_WriteByte_k _ _ _ _ _ (Or.inr h1) (by rw [List.length_append, Lib.byteCells_length]; simp; omega) hsz1).mono ?_
      rintro e w2 ⟨rfl, h2, hb2, hk2⟩
      go_wp2
      go_roundw
      case rel =>
        refine ⟨k + 1, by omega, by go_num, ?_, hbw.trans (hb1.trans hb2)⟩
        rw [HT.out, Lib.byteCells_append, Lib.byteCells_append]
        exact Or.inr h2
      case measure => simp [intOf]; omega
    · go_wp2_with fail
      refine (Try.Builder_String_any_k _ _ _ _ hI hbw.size).mono ?_
      rintro e w1 ⟨rfl, h1, hb1, hk1⟩
      go_wp2
      go_ret
      rw [List.take_of_length_le (by omega)]
      exact ⟨rfl, hbw.trans hb1⟩
end Go.Proofs.Ytkllljgnpcmojaa
