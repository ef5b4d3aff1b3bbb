/- The text of keys: the reference's, and the program's. -/
import Derived.Test.YtkllljgnpcmojaaReadR
import Derived.Test.YtkllljgnpcmojaaBuildR
namespace Go.Proofs.Ytkllljgnpcmojaa
open Go Go.RowKit

/-- The text of keys. -/
def dtext (l : List Key) : List UInt8 := l.flatMap fun k => hexOf k.1 ++ [10]
theorem dtext_append (a b : List Key) : dtext (a ++ b) = dtext a ++ dtext b := by simp [dtext]
theorem dtext_length (l : List Key) : (dtext l).length = 65 * l.length := by
  induction l with
  | nil => rfl
  | cons k l ih =>
    have hk := k.2
    simp only [dtext, List.flatMap_cons, List.length_append, length_hexOf, List.length_cons, List.length_nil] at *
    omega
/-- A key in a block or a row reads as bytes. -/
theorem key_bs {w : World} {b o cap : Nat} {k : Key} (h : w.rangeAt b o (kc k)) (hb : b < w.heap.size) : Bs w (.slice (some ⟨b, o, none⟩) 32 cap) k.1 := by
  refine ⟨_, cap, by rw [k.2], (fun h => by cases h), by rw [k.2]; decide, fun _ => ⟨b, o, rfl, hb, fun j hj => ?_⟩⟩
  rw [h j (bv (k.1[j])) (by rw [kc, List.getElem?_map, List.getElem?_eq_getElem hj]; rfl), List.getElem?_eq_getElem hj]
  rfl

set_option maxRecDepth 100000 in
set_option maxHeartbeats 2000000 in
theorem reftextd_any (a : Option Addr) (n cap : Nat) (l : List Key) (w : World) (h : Ks w (.slice a n cap) l) (hl : l.length ≤ 1000000) :
    Calls Try.prog 20 #[.slice a n cap] w fun e w' => e = .returned (.string ⟨(dtext l).toArray⟩) ∧ Below w.heap.size w w' := by
  obtain ⟨rfl, p1, p2, p3⟩ := h.len
  go_enter Try.func20, Try.ntmps20
  go_wp2_with fail
  go_loopw [3, 4] (fun s i wr => ∃ j : Nat, j ≤ l.length ∧ i = .int .i64 j ∧ s = .string ⟨(dtext (l.take j)).toArray⟩ ∧ Below w.heap.size w wr) (fun _ i _ => l.length - (intOf i).toNat)
  case atStart => exact ⟨0, by omega, rfl, rfl, Below.refl _ _⟩
  case round =>
    obtain ⟨j, hj, rfl, rfl, hbw⟩ := hrel
    by_cases hlt : j < l.length
    · obtain ⟨y, hy⟩ : ∃ y, l[j]? = some y := ⟨_, List.getElem?_eq_getElem hlt⟩
      obtain ⟨b, off, rfl, hb, hry⟩ := h.at j y hy
      have hrw := range_below hry hbw hb
      have hb2 : b < wr.heap.size := Nat.lt_of_lt_of_le hb hbw.size
      have i1 : (0 : Int) ≤ (j : Int) := by omega
      have i2 : (j : Int) < (l.length : Int) := by omega
      have hT : dtext (l.take (j + 1)) = (dtext (l.take j) ++ hexOf y.1) ++ [10] := by
        have e : l[j] = y := by have := hy; rw [List.getElem?_eq_getElem hlt] at this; exact Option.some.inj this
        rw [take_snoc l j hlt, dtext_append, e, List.append_assoc]
        simp [dtext]
      have q1 : (dtext (l.take j)).length = 65 * j := by rw [dtext_length, List.length_take, Nat.min_eq_left hj]
      have q2 : (hexOf y.1).length = 64 := by rw [length_hexOf, y.2]
      have hadd1 : (dtext (l.take j)).length + (hexOf y.1).length ≤ 9223372036854775807 := by omega
      have hadd2 : (dtext (l.take j)).length + (hexOf y.1).length + 1 ≤ 9223372036854775807 := by omega
      have HT := Lib.hid hT
      have Hh := Lib.hid h
      clear hy hry hT h q1 q2
      go_wp2_with (go_at_call 33; refine (reftext_any _ y.1 _ (key_bs hrw hb2) (by rw [y.2]; decide)).mono ?_; rintro e w5 ⟨rfl, hb5⟩)
      go_roundw
      case rel =>
        refine ⟨j + 1, by omega, by go_num, ?_, hbw.trans (hb5.mono hbw.size)⟩
        rw [HT.out, ← str_app, ← str_app]
      case measure => simp [intOf]; omega
    · obtain rfl : j = l.length := by omega
      clear h
      go_wp2
      go_ret
      rw [List.take_of_length_le (Nat.le_refl _)]
      exact ⟨rfl, hbw⟩
end Go.Proofs.Ytkllljgnpcmojaa
