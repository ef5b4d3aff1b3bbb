/- Plain: what follows for texts of bytes. -/
import Derived.Test.YtkllljgnpcmojaaScan
namespace Go.Proofs.Ytkllljgnpcmojaa
open Go

theorem dg_all : ∀ n : Fin 16, isd ((dg n.val).toNat : Int) = true ∧ hv ((dg n.val).toNat : Int) = (n.val : Int) ∧ (((48 : Int) ≤ (dg n.val).toNat ∧ ((dg n.val).toNat : Int) ≤ 57) ∨ ((97 : Int) ≤ (dg n.val).toNat ∧ ((dg n.val).toNat : Int) ≤ 102)) := by decide +kernel
theorem dg_isd (n : Nat) (h : n < 16) : isd ((dg n).toNat : Int) = true := (dg_all ⟨n, h⟩).1
theorem dg_hv (n : Nat) (h : n < 16) : hv ((dg n).toNat : Int) = (n : Int) := (dg_all ⟨n, h⟩).2.1
theorem dg_range (n : Nat) (h : n < 16) : ((48 : Int) ≤ (dg n).toNat ∧ ((dg n).toNat : Int) ≤ 57) ∨ ((97 : Int) ≤ (dg n).toNat ∧ ((dg n).toNat : Int) ≤ 102) := (dg_all ⟨n, h⟩).2.2
theorem byte_lt (b : UInt8) : b.toNat / 16 < 16 := by have := b.toNat_lt; omega
theorem byte_mod (b : UInt8) : b.toNat % 16 < 16 := by omega

/-- A list whose signs are a digit pair for each byte. -/
theorem scan_pair {x y b : UInt8} {l : List UInt8} (hx : isd x.toNat = true) (hy : isd y.toNat = true) (h1 : hv x.toNat = b.toNat / 16) (h2 : hv y.toNat = b.toNat % 16) :
    scan (-1) (x :: y :: l) = (scan (-1) l).map (b :: ·) := by
  rw [scan_half hx (by omega), scan_whole hy (by omega), h1, h2]
  have : (16 * ((b.toNat / 16 : Nat) : Int) + ((b.toNat % 16 : Nat) : Int)).toNat = b.toNat := by omega
  congr 1
  funext r
  congr 1
  have h3 := b.toNat_lt
  apply UInt8.toNat_inj.1
  simp
  omega
theorem scan_hexOf (a l : List UInt8) : scan (-1) (hexOf a ++ l) = (scan (-1) l).map (a ++ ·) := by
  induction a with
  | nil => simp [hexOf_nil]
  | cons b a ih =>
    rw [hexOf_cons, List.cons_append, List.cons_append, scan_pair (b := b) (dg_isd _ (byte_lt b)) (dg_isd _ (byte_mod b)) (by rw [dg_hv _ (byte_lt b)]; omega) (by rw [dg_hv _ (byte_mod b)]; omega), ih, Option.map_map]
    rfl
theorem scan_hexOf_all (a : List UInt8) : scan (-1) (hexOf a) = some a := by
  have := scan_hexOf a []
  rw [List.append_nil, scan_nil, if_pos (by omega)] at this
  rw [this]; simp
theorem scan_skips (g l : List UInt8) (hg : ∀ b ∈ g, skp b.toNat = true) : scan (-1) (g ++ l) = scan (-1) l := by
  induction g with
  | nil => rfl
  | cons b g ih =>
    have hs := hg b (by simp)
    have hi : isd (b.toNat : Int) = false := by simp [skp] at hs; simp [isd]; omega
    rw [List.cons_append, scan_skip hi (by omega) hs]
    exact ih fun c hc => hg c (by simp [hc])
theorem scan_between (a b g : List UInt8) (hg : ∀ x ∈ g, skp x.toNat = true) : scan (-1) (((hexOf a ++ g) ++ hexOf b) ++ g) = some (a ++ b) := by
  rw [List.append_assoc, List.append_assoc, scan_hexOf, scan_skips _ _ hg, scan_hexOf]
  have : scan (-1) g = some [] := by
    have := scan_skips g [] hg
    rw [List.append_nil, scan_nil, if_pos (by omega)] at this
    exact this
  rw [this]; simp
theorem hexOf_inj {a b : List UInt8} (h : hexOf a = hexOf b) : a = b := by
  have h1 := scan_hexOf_all a
  rw [h, scan_hexOf_all b] at h1
  exact (Option.some.inj h1).symm

/-- Digits alone. -/
def digits (l : List UInt8) : Prop := ∀ b ∈ l, isd b.toNat = true
theorem digits_hexOf (l : List UInt8) : digits (hexOf l) := by
  intro b hb
  unfold hexOf at hb
  simp only [List.mem_flatMap] at hb
  obtain ⟨x, _, hx⟩ := hb
  simp at hx
  rcases hx with rfl | rfl
  · exact dg_isd _ (byte_lt x)
  · exact dg_isd _ (byte_mod x)
/-- A half that stands at the end, or ahead of what is no digit. -/
theorem scan_odd (l : List UInt8) : ∀ (h : Int) (r : List UInt8), digits l → (h < 0 ∧ l.length % 2 = 1 ∨ 0 ≤ h ∧ l.length % 2 = 0) → (∀ b r', r = b :: r' → isd b.toNat = false) → scan h (l ++ r) = none := by
  induction l with
  | nil =>
    intro h r _ hh hr
    rcases hh with ⟨_, h2⟩ | ⟨h1, _⟩
    · simp at h2
    · cases r with
      | nil => rw [List.nil_append, scan_nil, if_neg (by omega)]
      | cons b r' => rw [List.nil_append, scan_stray (hr b r' rfl) (Or.inl h1)]
  | cons d l ih =>
    intro h r hd hh hr
    have hd0 := hd d (by simp)
    have hdl : digits l := fun b hb => hd b (by simp [hb])
    simp only [List.length_cons] at hh
    rw [List.cons_append]
    rcases hh with ⟨h1, h2⟩ | ⟨h1, h2⟩
    · rw [scan_half hd0 h1]
      exact ih _ r hdl (Or.inr ⟨hv_nonneg _, by omega⟩) hr
    · rw [scan_whole hd0 h1, ih _ r hdl (Or.inl ⟨by omega, by omega⟩) hr]
      rfl
theorem scan_odd_end (l : List UInt8) (hd : digits l) (hl : l.length % 2 = 1) : scan (-1) l = none := by
  have := scan_odd l (-1) [] hd (Or.inl ⟨by omega, hl⟩) (by simp)
  simpa using this
theorem digits_take {l : List UInt8} (h : digits l) (n : Nat) : digits (l.take n) := fun b hb => h b (List.mem_of_mem_take hb)
theorem digits_drop {l : List UInt8} (h : digits l) (n : Nat) : digits (l.drop n) := fun b hb => h b (List.mem_of_mem_drop hb)
theorem digits_append {a b : List UInt8} (ha : digits a) (hb : digits b) : digits (a ++ b) := fun x hx => by
  rcases List.mem_append.1 hx with h | h
  · exact ha x h
  · exact hb x h

/-- The signs at a byte's two places. -/
theorem hexOf_at (l : List UInt8) : ∀ (k : Nat) (h : k < l.length), (hexOf l)[2 * k]? = some (dg (l[k].toNat / 16)) ∧ (hexOf l)[2 * k + 1]? = some (dg (l[k].toNat % 16)) := by
  induction l with
  | nil => intro k h; simp at h
  | cons b l ih =>
    intro k h
    cases k with
    | zero => simp [hexOf_cons]
    | succ k =>
      have h' : k < l.length := by simpa using h
      have := ih k h'
      rw [hexOf_cons]
      simp only [List.getElem_cons_succ]
      rw [show 2 * (k + 1) = (2 * k + 1) + 1 by omega, List.getElem?_cons_succ, List.getElem?_cons_succ, List.getElem?_cons_succ, List.getElem?_cons_succ]
      exact this
theorem hexOf_drop (l : List UInt8) (k : Nat) : (hexOf l).drop (2 * k) = hexOf (l.drop k) := by
  have h : hexOf l = hexOf (l.take k) ++ hexOf (l.drop k) := by rw [← hexOf_append, List.take_append_drop]
  by_cases hk : k ≤ l.length
  · rw [h, List.drop_append_of_le_length (by rw [length_hexOf, List.length_take]; omega), List.drop_of_length_le (by rw [length_hexOf, List.length_take]; omega), List.nil_append]
  · rw [List.drop_of_length_le (by rw [length_hexOf]; omega), List.drop_of_length_le (by omega)]; rfl
theorem hexOf_take (l : List UInt8) (k : Nat) : (hexOf l).take (2 * k) = hexOf (l.take k) := by
  by_cases hk : k ≤ l.length
  · have h : hexOf l = hexOf (l.take k) ++ hexOf (l.drop k) := by rw [← hexOf_append, List.take_append_drop]
    rw [h, List.take_append_of_le_length (by rw [length_hexOf, List.length_take]; omega), List.take_of_length_le (by rw [length_hexOf, List.length_take]; omega)]
  · rw [List.take_of_length_le (by rw [length_hexOf]; omega), List.take_of_length_le (by omega)]

/-- A small letter as the great one. -/
def great (b : UInt8) : UInt8 := if 97 ≤ b.toNat ∧ b.toNat ≤ 102 then UInt8.ofNat (b.toNat - 32) else b
theorem great_all : ∀ n : Fin 16, isd ((great (dg n.val)).toNat : Int) = true ∧ hv ((great (dg n.val)).toNat : Int) = (n.val : Int) := by decide +kernel
theorem scan_great (a : List UInt8) : scan (-1) ((hexOf a).map great) = some a := by
  induction a with
  | nil => simp [hexOf_nil, scan_nil]
  | cons b a ih =>
    have h1 := great_all ⟨_, byte_lt b⟩
    have h2 := great_all ⟨_, byte_mod b⟩
    dsimp only at h1 h2
    rw [hexOf_cons, List.map_cons, List.map_cons, scan_pair (b := b) h1.1 h2.1 (by rw [h1.2]; omega) (by rw [h2.2]; omega), ih]
    rfl
end Go.Proofs.Ytkllljgnpcmojaa
