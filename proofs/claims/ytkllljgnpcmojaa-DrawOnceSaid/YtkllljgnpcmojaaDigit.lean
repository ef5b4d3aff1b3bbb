/- hex.Digit and the document's Digit: what a rune is worth. -/
import Derived.Test.YtkllljgnpcmojaaRune
namespace Go.Proofs.Ytkllljgnpcmojaa
open Go Go.RowKit

theorem index_any (r : Int) (w : World) :
    Calls Try.prog 40 #[.string digs, .int .i32 r] w fun e w' => e = .returned (.int .i64 (if 48 ≤ r ∧ r ≤ 57 then r - 48 else if 97 ≤ r ∧ r ≤ 102 then r - 87 else -1)) ∧ Below w.heap.size w w' := by
  by_cases h : 0 ≤ r ∧ r < 128
  · refine (Try.strings_IndexRune_ascii digs r w h.1 h.2).mono ?_
    rintro e w' ⟨rfl, rfl⟩
    rw [index_digs r h.1 h.2]
    exact ⟨rfl, Below.refl _ _⟩
  · refine (rune_any r w (by omega)).mono ?_
    rintro e w' ⟨rfl, hb⟩
    rw [if_neg (by omega), if_neg (by omega)]
    exact ⟨rfl, hb⟩

theorem index_yes (r v : Int) (w : World) (h : (48 ≤ r ∧ r ≤ 57 ∧ v = r - 48) ∨ (97 ≤ r ∧ r ≤ 102 ∧ v = r - 87)) :
    Calls Try.prog 40 #[.string digs, .int .i32 r] w fun e w' => e = .returned (.int .i64 v) ∧ Below w.heap.size w w' := by
  refine (index_any r w).mono ?_
  rintro e w' ⟨rfl, hb⟩
  refine ⟨?_, hb⟩
  rcases h with ⟨h1, h2, rfl⟩ | ⟨h1, h2, rfl⟩
  · rw [if_pos ⟨h1, h2⟩]
  · rw [if_neg (by omega), if_pos ⟨h1, h2⟩]
theorem index_no (r : Int) (w : World) (h : ¬ (48 ≤ r ∧ r ≤ 57) ∧ ¬ (97 ≤ r ∧ r ≤ 102)) :
    Calls Try.prog 40 #[.string digs, .int .i32 r] w fun e w' => e = .returned (.int .i64 (-1)) ∧ Below w.heap.size w w' := by
  refine (index_any r w).mono ?_
  rintro e w' ⟨rfl, hb⟩
  refine ⟨?_, hb⟩
  rw [if_neg h.1, if_neg h.2]

set_option maxHeartbeats 400000 in
theorem digit_great (c v : Int) (w : World) (h : 65 ≤ c ∧ c ≤ 70) (hv : v = c - 55) :
    Calls Try.prog 34 #[.int .i32 c] w fun e w' => e = .returned (.tuple #[.int .i64 v, .bool true]) ∧ Below w.heap.size w w' := by
  obtain ⟨h1, h2⟩ := h
  have hv0 : 0 ≤ v := by omega
  have hi := index_yes (c + 32) v w (Or.inr ⟨by omega, by omega, by omega⟩)
  have Hi := Lib.hid hi
  clear hi hv
  go_enter Try.func34, Try.ntmps34
  go_wp2_with (go_at_call 40; refine (Hi.out).mono ?_; rintro e w' ⟨rfl, hb⟩)
  go_ret2
  exact ⟨rfl, hb⟩
set_option maxHeartbeats 400000 in
theorem digit_small (c v : Int) (w : World) (h : (48 ≤ c ∧ c ≤ 57 ∧ v = c - 48) ∨ (97 ≤ c ∧ c ≤ 102 ∧ v = c - 87)) :
    Calls Try.prog 34 #[.int .i32 c] w fun e w' => e = .returned (.tuple #[.int .i64 v, .bool true]) ∧ Below w.heap.size w w' := by
  have hv0 : 0 ≤ v := by omega
  have Hi := Lib.hid (index_yes c v w h)
  have h' : c < 65 ∨ 70 < c := by omega
  clear h
  rcases h' with h' | h'
  all_goals
    go_enter Try.func34, Try.ntmps34
    go_wp2_with (go_at_call 40; refine (Hi.out).mono ?_; rintro e w' ⟨rfl, hb⟩)
    go_ret2
    exact ⟨rfl, hb⟩
set_option maxHeartbeats 400000 in
theorem digit_none (c : Int) (w : World) (h : isd c = false) :
    Calls Try.prog 34 #[.int .i32 c] w fun e w' => e = .returned (.tuple #[.int .i64 0, .bool false]) ∧ Below w.heap.size w w' := by
  simp only [isd, decide_eq_false_iff_not] at h
  have Hi := Lib.hid (index_no c w ⟨by omega, by omega⟩)
  have h' : c < 65 ∨ 70 < c := by omega
  clear h
  rcases h' with h' | h'
  all_goals
    go_enter Try.func34, Try.ntmps34
    go_wp2_with (go_at_call 40; refine (Hi.out).mono ?_; rintro e w' ⟨rfl, hb⟩)
    go_ret2
    exact ⟨rfl, hb⟩

/-- hex.Digit. -/
theorem digit_any (c : Int) (w : World) :
    Calls Try.prog 34 #[.int .i32 c] w fun e w' => e = .returned (.tuple #[.int .i64 (hv c), .bool (isd c)]) ∧ Below w.heap.size w w' := by
  unfold hv
  by_cases h : isd c = true
  · rw [h]
    simp only [isd, decide_eq_true_eq] at h
    split
    · exact digit_small c _ w (by omega)
    · split
      · exact digit_small c _ w (by omega)
      · split
        · exact digit_great c _ w (by omega) rfl
        · omega
  · have h' : isd c = false := by simpa using h
    rw [h']
    simp only [isd, decide_eq_false_iff_not] at h'
    rw [if_neg (by omega), if_neg (by omega), if_neg (by omega)]
    exact digit_none c w (by simpa using h)
end Go.Proofs.Ytkllljgnpcmojaa
