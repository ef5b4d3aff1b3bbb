/- The walk of the law DrawBack. -/
import Derived.Test.YtkllljgnpcmojaaAwake8
import Derived.Test.YtkllljgnpcmojaaFlat
namespace Go.Proofs.Ytkllljgnpcmojaa
open Go Go.RowKit

set_option maxHeartbeats 1000000 in
set_option maxRecDepth 100000 in
theorem drawBack_walk (a0 : Option Addr) (len0 cap0 : Nat) (w : World) (w0 : len0 ≤ 140737488355328 → ∃ l, Ks w (.slice a0 len0 cap0) l) :
    Calls Try.prog 6 #[.slice a0 len0 cap0] w fun e w' => e = .returned (.bool true) ∧ Below w.heap.size w w' := by
  by_cases h1 : len0 ≤ 60
  · obtain ⟨l, hk⟩ := w0 (by omega)
    obtain ⟨rfl, p1, p2, p3⟩ := hk.len
    clear w0
    go_enter Try.func6, Try.ntmps6
    go_wp2_with fail
    refine (awake8_any _).mono ?_
    rintro e w1 ⟨rfl, hb1⟩
    go_wp2_with fail
    refine (textd_any _ _ _ l _ (hk.below hb1) (by omega)).mono ?_
    rintro e w2 ⟨rfl, hb2⟩
    have hB2 := hb1.trans (hb2.mono hb1.size)
    have hsz : (ByteArray.mk (dtext l).toArray).size = 65 * l.length := by
      show (dtext l).toArray.size = _
      rw [List.size_toArray, dtext_length]
    have hsc : scan (-1) (ByteArray.mk (dtext l).toArray).data.toList = some (flat l) := scan_dtext l
    generalize hS : ByteArray.mk (dtext l).toArray = S at *
    have HS := Lib.hid hS
    clear hS hb1 hb2
    go_wp2_with fail
    refine (read_any S w2 (by omega)).mono ?_
    rintro e w3 ⟨hr, hb3⟩
    rw [hsc] at hr
    rcases hr with ⟨h, _⟩ | ⟨b, h, hne, _⟩ | ⟨b, v3, h, _, rfl, hv3⟩
    · cases h
    · cases h
      rw [flat_length] at hne
      omega
    cases h
    rw [flat_length, Nat.mul_div_cancel_left _ (by decide), chunks_flat] at hv3
    obtain ⟨a3, c3, rfl, _⟩ := id hv3
    have hB3 := hB2.trans (hb3.mono hB2.size)
    go_wp2_with fail
    refine (bytes_any S w3 (by omega)).mono ?_
    rintro e w4 ⟨hr, hb4⟩
    rw [hsc] at hr
    rcases hr with ⟨out, v4, h, rfl, hv4⟩ | ⟨h, _⟩
    rotate_left
    · cases h
    cases h
    obtain ⟨a4, c4, rfl, _⟩ := own_bs hv4 (by rw [flat_length]; omega)
    have hB4 := hB3.trans (hb4.mono hB3.size)
    have hfl := flat_length l
    have hk4 := hk.below hB4
    have hv34 := hv3.below hb4
    clear hk hv3 hv4 hB2 hB3 hb3 hb4 hsc
    go_wp2_with fail
    refine (all_is _ _ _ _ _ _ l l true (by simp) _ hk4 hv34).mono ?_
    rintro e w5 ⟨rfl, hb5⟩
    have hB5 := hB4.trans (hb5.mono hB4.size)
    clear hk4 hv34 hb5
    go_wp2
    go_ret
    exact ⟨rfl, hB5⟩
  · have h1' : 60 < len0 := by omega
    clear h1 w0
    go_enter Try.func6, Try.ntmps6
    go_wp2_with fail
    refine (awake8_any _).mono ?_
    rintro e w1 ⟨rfl, hb1⟩
    go_wp2
    go_ret
    exact ⟨rfl, hb1⟩
end Go.Proofs.Ytkllljgnpcmojaa
