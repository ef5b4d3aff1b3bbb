/- Plain: reading a text of digits byte by byte. -/
import Derived.Test.YtkllljgnpcmojaaPlain
namespace Go.Proofs.Ytkllljgnpcmojaa
open Go

/-- What is left out between bytes: a blank, a line's end, an underscore. -/
def skp (c : Int) : Bool := decide (c = 32 ∨ c = 10 ∨ c = 95)
/-- The bytes that a text is; 'h': the half that stands (below 0: none). -/
def scan : Int → List UInt8 → Option (List UInt8)
  | h, [] => if h < 0 then some [] else none
  | h, b :: l =>
    if isd b.toNat then (if h < 0 then scan (hv b.toNat) l else (scan (-1) l).map fun r => UInt8.ofNat (16 * h + hv b.toNat).toNat :: r)
    else if h < 0 ∧ skp b.toNat = true then scan h l else none

theorem scan_nil (h : Int) : scan h [] = if h < 0 then some [] else none := rfl
theorem scan_half {h : Int} {b : UInt8} {l : List UInt8} (hb : isd b.toNat = true) (hh : h < 0) : scan h (b :: l) = scan (hv b.toNat) l := by simp [scan, hb, hh]
theorem scan_whole {h : Int} {b : UInt8} {l : List UInt8} (hb : isd b.toNat = true) (hh : 0 ≤ h) : scan h (b :: l) = (scan (-1) l).map fun r => UInt8.ofNat (16 * h + hv b.toNat).toNat :: r := by
  have : ¬ h < 0 := by omega
  simp [scan, hb, this]
theorem scan_skip {h : Int} {b : UInt8} {l : List UInt8} (hb : isd b.toNat = false) (hh : h < 0) (hs : skp b.toNat = true) : scan h (b :: l) = scan h l := by simp [scan, hb, hh, hs]
theorem scan_stray {h : Int} {b : UInt8} {l : List UInt8} (hb : isd b.toNat = false) (hs : 0 ≤ h ∨ skp b.toNat = false) : scan h (b :: l) = none := by
  simp only [scan, hb]
  rw [if_neg (by simp), if_neg]
  rintro ⟨h1, h2⟩
  rcases hs with h3 | h3
  · omega
  · simp [h3] at h2
theorem isd_lt {c : Int} (h : isd c = true) : c < 128 ∧ 0 ≤ c := by simp [isd] at h; omega
theorem skp_lt {c : Int} (h : skp c = true) : c < 128 ∧ 0 ≤ c := by simp [skp] at h; omega
theorem isd_skp {c : Int} (h : isd c = true) : skp c = false := by simp [isd] at h; simp [skp]; omega
theorem scan_len : ∀ (l : List UInt8) (h : Int) (r : List UInt8), scan h l = some r → r.length ≤ l.length
  | [], h, r, e => by rw [scan_nil] at e; split at e <;> simp at e; subst e; simp
  | b :: l, h, r, e => by
    cases hb : isd b.toNat with
    | true =>
      by_cases hh : h < 0
      · rw [scan_half hb hh] at e; have := scan_len l _ r e; simp; omega
      · rw [scan_whole hb (by omega)] at e
        simp only [Option.map_eq_some_iff] at e
        obtain ⟨r', e', rfl⟩ := e
        have := scan_len l _ r' e'; simp; omega
    | false =>
      cases hs : skp b.toNat with
      | true =>
        by_cases hh : h < 0
        · rw [scan_skip hb hh hs] at e; have := scan_len l _ r e; simp; omega
        · rw [scan_stray hb (Or.inl (by omega))] at e; cases e
      | false => rw [scan_stray hb (Or.inr hs)] at e; cases e
/-- What the text comes to from a place on, behind what is there already. -/
def comes (acc : List UInt8) (h : Int) (l : List UInt8) : Option (List UInt8) := (scan h l).map (acc ++ ·)
end Go.Proofs.Ytkllljgnpcmojaa
