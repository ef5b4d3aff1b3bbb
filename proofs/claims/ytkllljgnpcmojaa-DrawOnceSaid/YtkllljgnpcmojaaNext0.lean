/- The next key of a source: the program's and the reference's. -/
import Derived.Test.YtkllljgnpcmojaaIndex
namespace Go.Proofs.Ytkllljgnpcmojaa
open Go Go.RowKit

theorem keyhas_any (a : Option Addr) (n cap : Nat) (l : List Key) (k : Key) (w : World) (h : Ks w (.slice a n cap) l) :
    Calls Try.prog 26 #[.slice a n cap, .agg (kc k).toArray] w fun e w' => e = .returned (.bool (decide (k ∈ l))) ∧ Below w.heap.size w w' := by
  have hb0 : Below w.heap.size w (w.alloc (.cells (kc k).toArray 26)) := (Below.refl _ w).alloc (Nat.le_refl _) _
  have hr0 := range_boxed w k
  have hk0 := h.below hb0
  clear h
  go_enter Try.func26, Try.ntmps26
  go_wp2_with (refine wpList_load_mid rfl 26 _ rfl w.heap.size 0 rfl (kc k) _ hr0 Try.underlying26 rfl (key_info k) ?_)
  refine (keyindex_any _ _ _ _ _ _ hk0).mono ?_
  rintro e w2 ⟨⟨r, rfl, hr, hr1, hr2⟩, hb2⟩
  have hB2 : Below w.heap.size w w2 := hb0.trans (hb2.mono hb0.size)
  have Hr := Lib.hid hr
  clear hr
  go_wp2
  go_ret
  refine ⟨?_, hB2⟩
  show Ending.returned (.bool (decide (0 ≤ r))) = .returned (.bool (decide (k ∈ l)))
  rw [decide_eq_decide.2 Hr.out]
end Go.Proofs.Ytkllljgnpcmojaa
