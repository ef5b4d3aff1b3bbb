/- The walk of the law HexTells. -/
import Derived.Test.YthfjlihfgmmomaaLib
namespace Go.Proofs.Ythfjlihfgmmomaa
open Go Go.RowKit

theorem bs_nil (w : World) : Bs w (.slice none 0 0) [] := ⟨none, 0, rfl, by simp, fun h => absurd rfl h⟩
/-- Both readings of a text are slices that read alike, with one error. -/
def Alike (w : World) (o : Option (List UInt8)) (e : Ending) (w' : World) : Prop :=
  ∃ v l k, e = .returned (.tuple #[v, .int .i64 k]) ∧ Bs w' v l ∧ (l = o.getD []) ∧ (k = if o.isSome then 0 else 20) ∧ Below w.heap.size w w'
theorem reads_alike {w w' : World} {o : Option (List UInt8)} {e : Ending} (h : Reads w o e w' ∧ Below w.heap.size w w') (hl : ∀ l, o = some l → l.length ≤ 140737488355328) : Alike w o e w' := by
  obtain ⟨⟨out, v, ho, he, hown⟩ | ⟨ho, he⟩, hb⟩ := h
  · exact ⟨v, out, 0, he, own_bs hown (hl out ho), by rw [ho]; rfl, by rw [ho]; rfl, hb⟩
  · exact ⟨_, [], 20, he, bs_nil w', by rw [ho]; rfl, by rw [ho]; rfl, hb⟩
theorem bytes_alike (s : ByteArray) (w : World) (hs : s.size ≤ 35184372088832) :
    Calls Try.prog 11 #[.string s] w fun e w' => Alike w (scan (-1) s.data.toList) e w' :=
  (bytes_any s w hs).mono fun _ _ h => reads_alike h fun l hl => by have := scan_len _ _ _ hl; simp at this; omega
theorem refbytes_alike (s : ByteArray) (w : World) (hs : s.size ≤ 35184372088832) :
    Calls Try.prog 12 #[.string s] w fun e w' => Alike w (scan (-1) s.data.toList) e w' :=
  (refbytes_any s w hs).mono fun _ _ h => reads_alike h fun l hl => by have := scan_len _ _ _ hl; simp at this; omega

set_option maxHeartbeats 1000000 in
set_option maxRecDepth 100000 in
theorem hexTells_walk (a0 : Option Addr) (len0 cap0 : Nat) (z0 : List Int) (s : ByteArray) (c : Int) (w : World) (w0 : IsRow .u8 w a0 len0 cap0 z0) (_w1 : s.size ≤ maxLen) (_w2 : (Lit.int .i32 c).wf = true) :
    Calls Try.prog 3 #[.slice a0 len0 cap0, .string s, .int .i32 c] w fun e w' => e = .returned (.bool true) ∧ Below w.heap.size w w' := by
  by_cases h1 : len0 ≤ 300
  · by_cases h2 : s.size ≤ 300
    · obtain ⟨l, rfl, hbs⟩ := row_bs w0 (by omega)
      clear w0
      go_enter Try.func3, Try.ntmps3
      go_wp2_with fail
      refine (awake_any _).mono ?_
      rintro e w1 ⟨rfl, hb1⟩
      go_wp2_with fail
      refine (bytes_alike _ _ (by omega)).mono ?_
      rintro e w2 ⟨v2, l2, k2, rfl, hs2, hl2, hk2, hb2⟩
      have HL2 := Lib.hid hl2
      have HK2 := Lib.hid hk2
      clear hl2 hk2
      go_wp2_with fail
      refine (refbytes_alike _ _ (by omega)).mono ?_
      rintro e w3 ⟨v3, l3, k3, rfl, hs3, hl3, hk3, hb3⟩
      obtain rfl : l2 = l3 := by rw [HL2.out, hl3]
      obtain rfl : k2 = k3 := by rw [HK2.out, hk3]
      clear HL2 hl3 HK2 hk3
      go_wp2_with fail
      refine (digit_any _ _).mono ?_
      rintro e w4 ⟨rfl, hb4⟩
      go_wp2_with fail
      refine (refdigit_any _ _).mono ?_
      rintro e w4' ⟨rfl, rfl⟩
      have hB2 := hb1.trans (hb2.mono hb1.size)
      have hB3 := hB2.trans (hb3.mono hB2.size)
      have hB4 := hB3.trans (hb4.mono hB3.size)
      go_wp2_with fail
      refine (text_any _ l _ (hbs.below hB4) (by omega)).mono ?_
      rintro e w5 ⟨rfl, hb5⟩
      have hB5 := hB4.trans (hb5.mono hB4.size)
      go_wp2_with fail
      refine (reftext_any _ l _ (hbs.below hB5) (by omega)).mono ?_
      rintro e w6 ⟨rfl, hb6⟩
      have hB6 := hB5.trans (hb6.mono hB5.size)
      have hc2 := bs_string ((((hs2.below hb3).below hb4).below hb5).below hb6)
      have hc3 := bs_string (((hs3.below hb4).below hb5).below hb6)
      clear hs2 hs3 hbs
      go_wp2
      go_ret
      exact ⟨rfl, hB6⟩
    · go_enter Try.func3, Try.ntmps3
      have h2' : 300 < s.size := by omega
      clear h2 w0
      go_wp2_with fail
      refine (awake_any _).mono ?_
      rintro e w1 ⟨rfl, hb1⟩
      go_wp2
      go_ret
      exact ⟨rfl, hb1⟩
  · go_enter Try.func3, Try.ntmps3
    have h1' : 300 < len0 := by omega
    clear h1 w0
    go_wp2_with fail
    refine (awake_any _).mono ?_
    rintro e w1 ⟨rfl, hb1⟩
    go_wp2
    go_ret
    exact ⟨rfl, hb1⟩
end Go.Proofs.Ythfjlihfgmmomaa
