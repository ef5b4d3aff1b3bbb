/- Plain words on hexadecimal digits: no program here. -/
import Derived.Lib.Bytealg
import GoSem.Core.Utf8
namespace Go.Proofs.Ytkllljgnpcmojaa
open Go

/-- The constant text of the sixteen digits. -/
def digs : ByteArray := ⟨#[48, 49, 50, 51, 52, 53, 54, 55, 56, 57, 97, 98, 99, 100, 101, 102]⟩
/-- What a rune is worth. -/
def hv (c : Int) : Int := if 48 ≤ c ∧ c ≤ 57 then c - 48 else if 97 ≤ c ∧ c ≤ 102 then c - 87 else if 65 ≤ c ∧ c ≤ 70 then c - 55 else 0
/-- Is it a digit? -/
def isd (c : Int) : Bool := decide ((48 ≤ c ∧ c ≤ 57) ∨ (97 ≤ c ∧ c ≤ 102) ∨ (65 ≤ c ∧ c ≤ 70))

theorem index_digs_nat : ∀ n : Fin 128, Lib.indexByte digs.data.toList (n.val.toUInt8) = if 48 ≤ n.val ∧ n.val ≤ 57 then (n.val : Int) - 48 else if 97 ≤ n.val ∧ n.val ≤ 102 then (n.val : Int) - 87 else -1 := by decide +kernel
theorem index_digs (r : Int) (h0 : 0 ≤ r) (h1 : r < 128) : Lib.indexByte digs.data.toList r.toNat.toUInt8 = if 48 ≤ r ∧ r ≤ 57 then r - 48 else if 97 ≤ r ∧ r ≤ 102 then r - 87 else -1 := by
  have h := index_digs_nat ⟨r.toNat, by omega⟩
  obtain ⟨n, rfl⟩ := Int.eq_ofNat_of_zero_le h0
  simp only [Int.toNat_natCast] at h ⊢
  rw [h]
  split <;> split <;> first | omega | (split <;> omega) | rfl
/-- No byte of 128 or more stands in a tail of the digits. -/
theorem index_high_nat : ∀ (k : Fin 4) (n : Fin 256), 128 ≤ n.val → Lib.indexByte (digs.data.toList.drop (k.val + 1)) (n.val.toUInt8) = -1 := by decide +kernel

theorem hv_nonneg (c : Int) : 0 ≤ hv c := by unfold hv; split; omega; split; omega; split <;> omega
theorem hv_lt (c : Int) : hv c < 16 := by unfold hv; split; omega; split; omega; split <;> omega

/-- The code of a rune beyond ASCII: two to four bytes, each of 128 or more. -/
theorem encode_high (r : Int) (h : 128 ≤ r) (hv : Utf8.valid r = true) : (2 ≤ (Utf8.encode r).size ∧ (Utf8.encode r).size ≤ 4) ∧ ∀ b ∈ (Utf8.encode r).data.toList, 128 ≤ b.toNat := by
  obtain ⟨n, rfl⟩ := Int.eq_ofNat_of_zero_le (by omega : 0 ≤ r)
  have hn : n ≤ 0x10FFFF := by simp [Utf8.valid] at hv; omega
  unfold Utf8.encode
  simp only [hv, if_true, Int.toNat_natCast]
  have h128 : 128 ≤ n := by omega
  rw [if_neg (by omega)]
  split
  · refine ⟨by simp [ByteArray.size], ?_⟩
    intro b hb
    simp at hb
    rcases hb with rfl | rfl <;> simp <;> omega
  · split
    · refine ⟨by simp [ByteArray.size], ?_⟩
      intro b hb
      simp at hb
      rcases hb with rfl | rfl | rfl <;> simp <;> omega
    · refine ⟨by simp [ByteArray.size], ?_⟩
      intro b hb
      simp at hb
      rcases hb with rfl | rfl | rfl | rfl <;> simp <;> omega
/-- The last byte of such a code, and what stands ahead of it. -/
theorem encode_shape (r : Int) (h : 128 ≤ r) (hv : Utf8.valid r = true) : ∃ c : UInt8, 128 ≤ c.toNat ∧ ((∃ a, Utf8.encode r = ⟨#[a, c]⟩) ∨ (∃ a b, Utf8.encode r = ⟨#[a, b, c]⟩) ∨ (∃ a b d, Utf8.encode r = ⟨#[a, b, d, c]⟩)) := by
  obtain ⟨⟨h2, h4⟩, hb⟩ := encode_high r h hv
  generalize Utf8.encode r = rs at *
  obtain ⟨⟨l⟩⟩ := rs
  match l, h2, h4 with
  | [a, c], _, _ => exact ⟨c, hb c (by simp), Or.inl ⟨a, rfl⟩⟩
  | [a, b, c], _, _ => exact ⟨c, hb c (by simp), Or.inr (Or.inl ⟨a, b, rfl⟩)⟩
  | [a, b, d, c], _, _ => exact ⟨c, hb c (by simp), Or.inr (Or.inr ⟨a, b, d, rfl⟩)⟩
  | a :: b :: c :: d :: e :: l, _, h4 => simp [ByteArray.size] at h4
theorem index_high (k : Nat) (hk : k < 4) (c : UInt8) (hc : 128 ≤ c.toNat) : Lib.indexByte (digs.data.toList.drop (k + 1)) c = -1 := by
  have h := index_high_nat ⟨k, hk⟩ ⟨c.toNat, c.toNat_lt⟩ hc
  simpa using h
/-- The sign of a number below sixteen. -/
def dg (n : Nat) : UInt8 := digs.data.toList.getD n 0
theorem dg_at (n : Nat) (h : n < (⟨#[48, 49, 50, 51, 52, 53, 54, 55, 56, 57, 97, 98, 99, 100, 101, 102]⟩ : ByteArray).size) : (⟨#[48, 49, 50, 51, 52, 53, 54, 55, 56, 57, 97, 98, 99, 100, 101, 102]⟩ : ByteArray)[n]'h = dg n := by
  unfold dg digs
  rw [List.getD_eq_getElem?_getD, List.getElem?_eq_getElem (by exact h)]
  rfl
/-- Bytes as a text. -/
def hexOf (l : List UInt8) : List UInt8 := l.flatMap fun b => [dg (b.toNat / 16), dg (b.toNat % 16)]
theorem hexOf_nil : hexOf [] = [] := rfl
theorem hexOf_append (a b : List UInt8) : hexOf (a ++ b) = hexOf a ++ hexOf b := by simp [hexOf]
theorem hexOf_snoc (a : List UInt8) (b : UInt8) : hexOf (a ++ [b]) = (hexOf a ++ [dg (b.toNat / 16)]) ++ [dg (b.toNat % 16)] := by simp [hexOf]
theorem hexOf_cons (b : UInt8) (l : List UInt8) : hexOf (b :: l) = dg (b.toNat / 16) :: dg (b.toNat % 16) :: hexOf l := rfl
theorem length_hexOf (l : List UInt8) : (hexOf l).length = 2 * l.length := by
  induction l with
  | nil => rfl
  | cons b l ih => simp [hexOf_cons, ih]; omega
end Go.Proofs.Ytkllljgnpcmojaa
