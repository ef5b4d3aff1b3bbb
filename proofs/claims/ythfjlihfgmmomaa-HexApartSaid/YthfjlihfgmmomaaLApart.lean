/- The walk of the law HexApart. -/
import Derived.Test.YthfjlihfgmmomaaLSizes
import Derived.Deep.RegionHeld3
namespace Go.Proofs.Ythfjlihfgmmomaa
open Go Go.RowKit

theorem hexOf_eq (l m : List UInt8) : (hexOf l == hexOf m) = (l == m) := by
  rw [Bool.eq_iff_iff]; simp only [beq_iff_eq]
  exact ⟨hexOf_inj, fun h => by rw [h]⟩

/-- The sign at place i of a text, as a number. -/
theorem sign_at (l : List UInt8) (S : ByteArray) (hS : S = ⟨(hexOf l).toArray⟩) (i : Nat) (hi : i < S.size) :
    ∃ (hk : i / 2 < l.length), isd ((S[i]'hi).toNat : Int) = true ∧ hv ((S[i]'hi).toNat : Int) = (if i % 2 = 0 then ((l[i / 2]'hk).toNat / 16 : Nat) else ((l[i / 2]'hk).toNat % 16 : Nat) : Nat) := by
  have hs : S.size = 2 * l.length := by rw [hS]; simp [ByteArray.size, length_hexOf]
  have hk : i / 2 < l.length := by omega
  obtain ⟨q1, q2, e1, e2⟩ := text_at l S hS (i / 2) hk
  refine ⟨hk, ?_⟩
  by_cases hm : i % 2 = 0
  · have : S[i]'hi = dg ((l[i / 2]'hk).toNat / 16) := by
      rw [← e1]; congr 1; omega
    rw [this, if_pos hm]
    exact ⟨dg_isd _ (byte_lt _), dg_hv _ (byte_lt _)⟩
  · have : S[i]'hi = dg ((l[i / 2]'hk).toNat % 16) := by
      rw [← e2]; congr 1; omega
    rw [this, if_neg hm]
    exact ⟨dg_isd _ (byte_mod _), dg_hv _ (byte_mod _)⟩

/-- Two slices that read as bytes, and nothing old has turned. -/
structure Two (w0 : World) (va vb : Value) (l m : List UInt8) (w : World) : Prop where
  a : Bs w va l
  b : Bs w vb m
  c : Below w0.heap.size w0 w
theorem Two.drew {w0 : World} {va vb : Value} {l m : List UInt8} {w : World} (h : Two w0 va vb l m w) : Two w0 va vb l m w.drew :=
  ⟨h.a.below (below_drawn _ w 1), h.b.below (below_drawn _ w 1), h.c.drew⟩
theorem Two.below {w0 : World} {va vb : Value} {l m : List UInt8} {w w' : World} (h : Two w0 va vb l m w) (hb : Below w.heap.size w w') : Two w0 va vb l m w' :=
  ⟨h.a.below hb, h.b.below hb, h.c.trans (hb.mono h.c.size)⟩

set_option maxHeartbeats 1000000 in
set_option maxRecDepth 100000 in
theorem hexApart_walk (a0 : Option Addr) (len0 cap0 : Nat) (z0 : List Int) (a1 : Option Addr) (len1 cap1 : Nat) (z1 : List Int) (w : World) (w0 : IsRow .u8 w a0 len0 cap0 z0) (w1 : IsRow .u8 w a1 len1 cap1 z1) :
    Calls Try.prog 6 #[.slice a0 len0 cap0, .slice a1 len1 cap1] w fun e w' => e = .returned (.bool true) ∧ Below w.heap.size w w' := by
  by_cases h1 : len0 ≤ 300 ∧ len1 ≤ 300
  · obtain ⟨h1, h2⟩ := h1
    obtain ⟨l, rfl, hbs⟩ := row_bs w0 (by omega)
    obtain ⟨m, rfl, hbm⟩ := row_bs w1 (by omega)
    clear w0 w1
    go_enter Try.func6, Try.ntmps6
    go_wp2_with fail
    refine (awake_any _).mono ?_
    rintro e w1 ⟨rfl, hb1⟩
    go_wp2_with fail
    refine (text_any _ l _ (hbs.below hb1) (by omega)).mono ?_
    rintro e w2 ⟨rfl, hb2⟩
    have hB2 := hb1.trans (hb2.mono hb1.size)
    obtain ⟨S, hS⟩ : ∃ S : ByteArray, S = ⟨(hexOf l).toArray⟩ := ⟨_, rfl⟩
    have hsz : S.size = 2 * l.length := by rw [hS]; simp [ByteArray.size, length_hexOf]
    have HS := Lib.hid hS
    rw [← hS]
    clear hS
    have hs1 : S.size ≤ 600 := by omega
    have HZ := Lib.hid hsz
    clear hsz
    go_wp2
    go_loopw [7, 8, 9] (fun i _ _ wr => ∃ k : Nat, k ≤ S.size ∧ i = .int .i64 k ∧ Below w.heap.size w wr) (fun i _ _ _ => S.size - (intOf i).toNat)
    case atStart => exact ⟨0, by omega, rfl, hB2⟩
    case round =>
      obtain ⟨k, hk, rfl, hbw⟩ := hrel
      by_cases hlt : k < S.size
      · obtain ⟨hk2, hd, hvv⟩ := sign_at l S HS.out k hlt
        obtain ⟨p, hp⟩ : ∃ p, S[k]'hlt = p := ⟨_, rfl⟩
        rw [hp] at hd hvv
        generalize hx : l[k / 2] = x at hvv
        have hp1 : (p.toNat : Int) < 256 := by have := p.toNat_lt; omega
        obtain ⟨b, off, rfl, hb, hc⟩ := bs_cell hbs (k / 2) hk2
        rw [hx] at hc
        have hx1 : (x.toNat : Int) < 256 := by have := x.toNat_lt; omega
        clear hx
        by_cases hm : k % 2 = 0
        · rw [if_pos hm] at hvv
          have Hp := fun w => Lib.hid (digit_is (p.toNat : Int) ((x.toNat / 16 : Nat) : Int) true w hvv hd)
          clear hd hvv
          have g1 : (((k : Int) % 2) == 0) = true := by simp; omega
          have g2 : (((k : Int) % 2) == 1) = false := by simp; omega
          go_wp2_with fail
          refine ((Hp _).out).mono ?_
          rintro e w7 ⟨rfl, hb7⟩
          have hB7 := hbw.trans (hb7.mono hbw.size)
          have hc1 : w7.cell? ⟨b, off + k / 2, none⟩ = some (.int .u8 x.toNat) := (hB7.cell (p := ⟨b, off + k / 2, none⟩) hb).trans hc
          go_wp2
          all_goals
            go_roundw
            case rel => exact ⟨k + 1, by omega, by go_num, hB7⟩
            case measure => simp [intOf]; omega
        · rw [if_neg hm] at hvv
          have Hp := fun w => Lib.hid (digit_is (p.toNat : Int) ((x.toNat % 16 : Nat) : Int) true w hvv hd)
          clear hd hvv
          have g1 : (((k : Int) % 2) == 0) = false := by simp; omega
          have g2 : (((k : Int) % 2) == 1) = true := by simp; omega
          go_wp2_with fail
          refine ((Hp _).out).mono ?_
          rintro e w7 ⟨rfl, hb7⟩
          have hB7 := hbw.trans (hb7.mono hbw.size)
          have hc1 : w7.cell? ⟨b, off + k / 2, none⟩ = some (.int .u8 x.toNat) := (hB7.cell (p := ⟨b, off + k / 2, none⟩) hb).trans hc
          go_wp2
          all_goals
            go_roundw
            case rel => exact ⟨k + 1, by omega, by go_num, hB7⟩
            case measure => simp [intOf]; omega
      · have hT : Two w (.slice a0 l.length cap0) (.slice a1 m.length cap1) l m wr := ⟨hbs.below hbw, hbm.below hbw, hbw⟩
        have hcv1 : ∀ w' : World, Two w (.slice a0 l.length cap0) (.slice a1 m.length cap1) l m w' → (convert 22 9 (.slice a0 l.length cap0)).run Try.prog w' = .ok (.string ⟨l.toArray⟩) w' := fun w' h => bs_string h.a
        have hcv2 : ∀ w' : World, Two w (.slice a0 l.length cap0) (.slice a1 m.length cap1) l m w' → (convert 22 9 (.slice a1 m.length cap1)).run Try.prog w' = .ok (.string ⟨m.toArray⟩) w' := fun w' h => bs_string h.b
        clear hbs hbm hbw
        go_wp2
        go_region_held3 (fun w' => Two w (.slice a0 l.length cap0) (.slice a1 m.length cap1) l m w') (first | exact Two.drew hT | exact Two.below ‹_› ‹_› | assumption) (first | (go_at_call 15; refine (text_any _ m _ (Two.b ‹_›) (by omega)).mono ?_; rintro e w' ⟨rfl, hb⟩))
        rename_i w8 hT8
        have HF : Hid (((S.toList == hexOf m) == (l == m)) = true) := by
          show _ = _
          rw [HS.out, byteArray_toList, hexOf_eq]; simp
        go_wp2
        go_ret
        refine ⟨?_, hT8.c⟩
        show Ending.returned (.bool ((S.toList == hexOf m) == (l == m))) = _
        rw [HF.out]
  · go_enter Try.func6, Try.ntmps6
    by_cases h2 : len0 ≤ 300
    · have h3 : 300 < len1 := by omega
      clear h1 w0 w1
      go_wp2_with fail
      refine (awake_any _).mono ?_
      rintro e w1 ⟨rfl, hb1⟩
      go_wp2
      go_ret
      exact ⟨rfl, hb1⟩
    · have h3 : 300 < len0 := by omega
      clear h1 h2 w0 w1
      go_wp2_with fail
      refine (awake_any _).mono ?_
      rintro e w1 ⟨rfl, hb1⟩
      go_wp2
      go_ret
      exact ⟨rfl, hb1⟩
end Go.Proofs.Ythfjlihfgmmomaa
