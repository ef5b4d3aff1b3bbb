/- Plain: the bytes of keys in a row, and the text that tells them. -/
import Derived.Test.YtkllljgnpcmojaaTextD
import Derived.Test.YtkllljgnpcmojaaRead
import Derived.Test.YtkllljgnpcmojaaMore
namespace Go.Proofs.Ytkllljgnpcmojaa
open Go

def flat (l : List Key) : List UInt8 := l.flatMap (·.1)
theorem flat_cons (k : Key) (l : List Key) : flat (k :: l) = k.1 ++ flat l := rfl
theorem flat_length (l : List Key) : (flat l).length = 32 * l.length := by
  induction l with
  | nil => rfl
  | cons k l ih => rw [flat_cons, List.length_append, ih, k.2, List.length_cons]; omega
theorem flat_drop (l : List Key) : ∀ i, (flat l).drop (32 * i) = flat (l.drop i) := by
  induction l with
  | nil => intro i; simp [flat]
  | cons k l ih =>
    intro i
    cases i with
    | zero => simp
    | succ i =>
      rw [flat_cons, List.drop_succ_cons, ← ih i, List.drop_append, List.drop_eq_nil_of_le (by rw [k.2]; omega), List.nil_append]
      congr 1
      rw [k.2]; omega
theorem mkKey_key (k : Key) (r : List UInt8) : mkKey (k.1 ++ r) = k := by
  apply Subtype.ext
  rw [mkKey_val _ (by rw [List.length_append, k.2]; omega)]
  rw [List.take_append_of_le_length (by rw [k.2]; exact Nat.le_refl _), List.take_of_length_le (by rw [k.2]; exact Nat.le_refl _)]
theorem chunks_flat (l : List Key) : chunks (flat l) l.length = l := by
  refine List.ext_getElem? fun i => ?_
  by_cases hi : i < l.length
  · simp only [chunks, List.getElem?_map, List.getElem?_range hi, Option.map_some]
    rw [flat_drop, List.drop_eq_getElem_cons hi, flat_cons, mkKey_key, List.getElem?_eq_getElem hi]
  · rw [List.getElem?_eq_none (by rw [chunks_length]; omega), List.getElem?_eq_none (by omega)]
theorem scan_dtext (l : List Key) : scan (-1) (dtext l) = some (flat l) := by
  induction l with
  | nil => rfl
  | cons k l ih =>
    have e : dtext (k :: l) = hexOf k.1 ++ ([10] ++ dtext l) := by simp [dtext]
    rw [e, scan_hexOf, scan_skips [10] _ (by decide), ih, flat_cons]
    rfl
end Go.Proofs.Ytkllljgnpcmojaa
