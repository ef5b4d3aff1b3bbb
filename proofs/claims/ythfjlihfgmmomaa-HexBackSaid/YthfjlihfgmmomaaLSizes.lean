/- The walk of the law HexSizes. -/
import Derived.Test.YthfjlihfgmmomaaLib
import Derived.Test.YthfjlihfgmmomaaMore
namespace Go.Proofs.Ythfjlihfgmmomaa
open Go Go.RowKit

theorem byteArray_toList (l : List UInt8) : (ByteArray.mk l.toArray).toList = l := by simp [ByteArray.toList_eq]
/-- What a text of bytes shows at the places of byte k. -/
theorem text_at (l : List UInt8) (S : ByteArray) (hS : S = ⟨(hexOf l).toArray⟩) (k : Nat) (hk : k < l.length) :
    ∃ (h1 : 2 * k < S.size) (h2 : 2 * k + 1 < S.size), S[2 * k]'h1 = dg (l[k].toNat / 16) ∧ S[2 * k + 1]'h2 = dg (l[k].toNat % 16) := by
  subst hS
  have hs : (ByteArray.mk (hexOf l).toArray).size = 2 * l.length := by simp [ByteArray.size, length_hexOf]
  have h := hexOf_at l k hk
  refine ⟨by omega, by omega, ?_, ?_⟩
  · have := h.1
    rw [List.getElem?_eq_some_iff] at this
    obtain ⟨_, h2⟩ := this
    exact h2
  · have := h.2
    rw [List.getElem?_eq_some_iff] at this
    obtain ⟨_, h2⟩ := this
    exact h2

set_option maxHeartbeats 1000000 in
set_option maxRecDepth 100000 in
theorem hexSizes_walk (a0 : Option Addr) (len0 cap0 : Nat) (z0 : List Int) (a1 : Option Addr) (len1 cap1 : Nat) (z1 : List Int) (w : World) (w0 : IsRow .u8 w a0 len0 cap0 z0) (w1 : IsRow .u8 w a1 len1 cap1 z1) :
    Calls Try.prog 8 #[.slice a0 len0 cap0, .slice a1 len1 cap1] w fun e w' => e = .returned (.bool true) ∧ Below w.heap.size w w' := by
  by_cases h1 : len0 ≤ 300 ∧ len1 ≤ 300
  · obtain ⟨h1, h2⟩ := h1
    obtain ⟨l, rfl, hbs⟩ := row_bs w0 (by omega)
    obtain ⟨m, rfl, hbm⟩ := row_bs w1 (by omega)
    clear w0 w1
    obtain ⟨i0, hi, hz0, hz1, hz2⟩ := info_parts info5
    go_enter Try.func8, Try.ntmps8
    go_wp2_with fail
    refine (awake_any _).mono ?_
    rintro e w1 ⟨rfl, hb1⟩
    go_wp2_with fail
    refine (text_any _ l _ (hbs.below hb1) (by omega)).mono ?_
    rintro e w2 ⟨rfl, hb2⟩
    have hB2 := hb1.trans (hb2.mono hb1.size)
    obtain ⟨S, hS⟩ : ∃ S : ByteArray, S = ⟨(hexOf l).toArray⟩ := ⟨_, rfl⟩
    have hsz : (S.size : Int) = 2 * (l.length : Int) := by rw [hS]; simp [ByteArray.size, length_hexOf]
    have HS := Lib.hid hS
    rw [← hS]
    clear hS
    have g1 : ((S.size : Int) != 2 * (l.length : Int)) = false := by simp; omega
    have HZ := Lib.hid hsz
    clear hsz
    have hs2 := hB2.size
    have hbs2 := (hbs.below hB2).below ((Below.refl _ w2).alloc (Nat.le_refl _) (.cells #[] 5))
    have hown0 : (w2.alloc (.cells #[] 5)).ownsRow w.heap.size 5 1 (.slice (some ⟨w2.heap.size, 0, none⟩) 0 0) 0 [] := World.ownsRow_lit w2 #[] 0 hs2 (by unfold maxLen; omega) rfl
    go_wp2_with (at_builtin; refine wpList_append_bs _ rfl (.tmp 31) (.tmp 32) 22 rfl w.heap.size 5 i0 (.int .u8 0) Try.underlying22 hi hz0 hz1 hz2 rfl _ 0 [] rfl hown0 _ l rfl hbs2 ?c1 ?c2 ?_)
    case c1 => omega
    case c2 => simp; omega
    intro v3 w3 hown3 hg3
    have hB3 : Below w.heap.size w w3 := (hB2.alloc hs2 _).grown hg3 (by simp; omega) (fun k hk => by cases hk; exact hs2)
    have hs3 := hB3.size
    have hbm3 := hbm.below hB3
    clear hbs2 hown0 hg3
    go_wp2_with (at_builtin; refine wpList_append_bs _ rfl (.tmp 33) (.tmp 34) 22 rfl w.heap.size 5 i0 (.int .u8 0) Try.underlying22 hi hz0 hz1 hz2 rfl _ _ _ rfl hown3 _ m rfl hbm3 ?d1 ?d2 ?_)
    case d1 => omega
    case d2 => omega
    intro v4 w4 hown4 hg4
    have hB4 : Below w.heap.size w w4 := hB3.grown hg4 hs3 (fun k hk => (hown3.lt k hk).1)
    have hs4 := hB4.size
    have hbs4 : Bs w4 v4 (l ++ m) := own_bs (by simpa using hown4) (by simp; omega)
    clear hown3 hg4 hown4 hbm3
    go_wp2_with fail
    refine (text_any _ (l ++ m) _ hbs4 (by simp; omega)).mono ?_
    rintro e w5 ⟨rfl, hb5⟩
    have hB5 := hB4.trans (hb5.mono hs4)
    go_wp2_with fail
    refine (text_any _ m _ (hbm.below hB5) (by omega)).mono ?_
    rintro e w6 ⟨rfl, hb6⟩
    have hB6 := hB5.trans (hb6.mono hB5.size)
    rw [hexOf_append]
    have hadd : S.size + (hexOf m).length ≤ 9223372036854775807 := by rw [length_hexOf]; have := HZ.out; omega
    have heq : (S ++ ({ data := (hexOf m).toArray } : ByteArray)).toList = hexOf l ++ hexOf m := by rw [HS.out, str_app, byteArray_toList]
    go_wp2
    clear heq hadd
    go_loopw [7, 8, 9, 10, 11] (fun i _ _ _ _ wr => ∃ k : Nat, k ≤ l.length ∧ i = .int .i64 k ∧ Below w.heap.size w wr) (fun i _ _ _ _ _ => l.length - (intOf i).toNat)
    case atStart => exact ⟨0, by omega, rfl, hB6⟩
    case round =>
      obtain ⟨k, hk, rfl, hbw⟩ := hrel
      by_cases hlt : k < l.length
      · obtain ⟨q1, q2, e1, e2⟩ := text_at l S HS.out k hlt
        generalize hx : l[k] = x at e1 e2
        have hr1 := dg_range _ (byte_lt x)
        have hd1 := dg_isd _ (byte_lt x)
        have hv1 := dg_hv _ (byte_lt x)
        have hd2 := dg_isd _ (byte_mod x)
        have hv2 := dg_hv _ (byte_mod x)
        generalize dg (x.toNat / 16) = p at *
        generalize dg (x.toNat % 16) = q at *
        have hq1 : (q.toNat : Int) < 256 := by have := q.toNat_lt; omega
        have Hp := fun w => Lib.hid (digit_is (p.toNat : Int) ((x.toNat / 16 : Nat) : Int) true w hv1 hd1)
        have Hq := fun w => Lib.hid (digit_is (q.toNat : Int) ((x.toNat % 16 : Nat) : Int) true w hv2 hd2)
        clear hd1 hv1 hd2 hv2
        obtain ⟨b, off, rfl, hb, hc⟩ := bs_cell hbs k hlt
        rw [hx] at hc
        have hx1 : (x.toNat : Int) < 256 := by have := x.toNat_lt; omega
        clear hx
        go_wp2_with fail
        refine ((Hp _).out).mono ?_
        rintro e w7 ⟨rfl, hb7⟩
        go_wp2_with fail
        refine ((Hq _).out).mono ?_
        rintro e w8 ⟨rfl, hb8⟩
        have hB7 := hbw.trans (hb7.mono hbw.size)
        have hB8 := hB7.trans (hb8.mono hB7.size)
        have hc1 : w8.cell? ⟨b, off + k, none⟩ = some (.int .u8 x.toNat) := (hB8.cell (p := ⟨b, off + k, none⟩) hb).trans hc
        have g5 : (16 * ((x.toNat / 16 : Nat) : Int) + ((x.toNat % 16 : Nat) : Int) != (x.toNat : Int)) = false := by simp; omega
        go_wp2
        all_goals
          go_roundw
          case rel => exact ⟨k + 1, by omega, by go_num, hB8⟩
          case measure => simp [intOf]; omega
      · go_wp2
        go_ret
        exact ⟨rfl, hbw⟩
  · go_enter Try.func8, Try.ntmps8
    by_cases h2 : len0 ≤ 300
    · have h3 : 300 < len1 := by omega
      clear h1 w0 w1
      go_wp2_with fail
      refine (awake_any _).mono ?_
      rintro e w1 ⟨rfl, hb1⟩
      go_wp2
      go_ret
      exact ⟨rfl, hb1⟩
    · have h3 : 300 < len0 := by omega
      clear h1 h2 w0 w1
      go_wp2_with fail
      refine (awake_any _).mono ?_
      rintro e w1 ⟨rfl, hb1⟩
      go_wp2
      go_ret
      exact ⟨rfl, hb1⟩
end Go.Proofs.Ythfjlihfgmmomaa
