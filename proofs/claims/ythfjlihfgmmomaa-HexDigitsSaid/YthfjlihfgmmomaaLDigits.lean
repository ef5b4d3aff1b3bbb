/- The walk of the law HexDigits. -/
import Derived.Test.YthfjlihfgmmomaaLib
namespace Go.Proofs.Ythfjlihfgmmomaa
open Go Go.RowKit

theorem digit_is (c v : Int) (b : Bool) (w : World) (hv' : hv c = v) (hb' : isd c = b) :
    Calls Try.prog 13 #[.int .i32 c] w fun e w' => e = .returned (.tuple #[.int .i64 v, .bool b]) ∧ Below w.heap.size w w' := by
  subst hv'; subst hb'; exact digit_any c w

set_option maxHeartbeats 1000000 in
set_option maxRecDepth 100000 in
theorem hexDigits_walk (c : Int) (_w0 : (Lit.int .i32 c).wf = true) (w : World) :
    Calls Try.prog 9 #[.int .i32 c] w fun e w' => e = .returned (.bool true) ∧ Below w.heap.size w w' := by
  have hcase : (48 ≤ c ∧ c ≤ 57) ∨ (97 ≤ c ∧ c ≤ 102) ∨ (65 ≤ c ∧ c ≤ 70) ∨ c < 48 ∨ (57 < c ∧ c < 65) ∨ (70 < c ∧ c < 97) ∨ 102 < c := by omega
  rcases hcase with ⟨h1, h2⟩ | ⟨h1, h2⟩ | ⟨h1, h2⟩ | h1 | ⟨h1, h2⟩ | ⟨h1, h2⟩ | h1
  · have Hd := fun w => Lib.hid (digit_is c (c - 48) true w (by unfold hv; rw [if_pos ⟨h1, h2⟩]) (by simp [isd]; omega))
    go_enter Try.func9, Try.ntmps9
    go_wp2_with fail
    refine (awake_any _).mono ?_
    rintro e w1 ⟨rfl, hb1⟩
    go_wp2_with fail
    refine ((Hd _).out).mono ?_
    rintro e w2 ⟨rfl, hb2⟩
    go_wp2_with fail
    refine (digit_any _ _).mono ?_
    rintro e w3 ⟨rfl, hb3⟩
    go_wp2
    go_ret
    exact ⟨rfl, (hb1.trans (hb2.mono hb1.size)).trans (hb3.mono (hb1.trans (hb2.mono hb1.size)).size)⟩
  · have Hd := fun w => Lib.hid (digit_is c (c - 87) true w (by unfold hv; rw [if_neg (by omega), if_pos ⟨h1, h2⟩]) (by simp [isd]; omega))
    go_enter Try.func9, Try.ntmps9
    go_wp2_with fail
    refine (awake_any _).mono ?_
    rintro e w1 ⟨rfl, hb1⟩
    go_wp2_with fail
    refine ((Hd _).out).mono ?_
    rintro e w2 ⟨rfl, hb2⟩
    go_wp2_with fail
    refine (digit_any _ _).mono ?_
    rintro e w3 ⟨rfl, hb3⟩
    go_wp2
    go_ret
    exact ⟨rfl, (hb1.trans (hb2.mono hb1.size)).trans (hb3.mono (hb1.trans (hb2.mono hb1.size)).size)⟩
  · have Hd := fun w => Lib.hid (digit_is c (c - 55) true w (by unfold hv; rw [if_neg (by omega), if_neg (by omega), if_pos ⟨h1, h2⟩]) (by simp [isd]; omega))
    go_enter Try.func9, Try.ntmps9
    go_wp2_with fail
    refine (awake_any _).mono ?_
    rintro e w1 ⟨rfl, hb1⟩
    go_wp2_with fail
    refine ((Hd _).out).mono ?_
    rintro e w2 ⟨rfl, hb2⟩
    go_wp2_with fail
    refine (digit_is (c + 32) (c - 55) true _ (by unfold hv; rw [if_neg (by omega), if_pos (by omega)]; omega) (by simp [isd]; omega)).mono ?_
    rintro e w3 ⟨rfl, hb3⟩
    go_wp2
    go_ret
    exact ⟨rfl, (hb1.trans (hb2.mono hb1.size)).trans (hb3.mono (hb1.trans (hb2.mono hb1.size)).size)⟩
  all_goals
    have Hd := fun w => Lib.hid (digit_is c 0 false w (by unfold hv; rw [if_neg (by omega), if_neg (by omega), if_neg (by omega)]) (by simp [isd]; omega))
    go_enter Try.func9, Try.ntmps9
    go_wp2_with fail
    refine (awake_any _).mono ?_
    rintro e w1 ⟨rfl, hb1⟩
    go_wp2_with fail
    refine ((Hd _).out).mono ?_
    rintro e w2 ⟨rfl, hb2⟩
    go_wp2_with fail
    refine (digit_any _ _).mono ?_
    rintro e w3 ⟨rfl, hb3⟩
    go_wp2
    go_ret
    exact ⟨rfl, (hb1.trans (hb2.mono hb1.size)).trans (hb3.mono (hb1.trans (hb2.mono hb1.size)).size)⟩
end Go.Proofs.Ythfjlihfgmmomaa
