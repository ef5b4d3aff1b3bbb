/- The walk of the law HexLetters. -/
import Derived.Test.YthfjlihfgmmomaaLHalf
namespace Go.Proofs.Ythfjlihfgmmomaa
open Go Go.RowKit

theorem one_string (w : World) (p : UInt8) :
    (convert 22 9 (.slice (some ⟨w.heap.size, 0, none⟩) 1 1)).run Try.prog (w.alloc (.cells #[.int .u8 (p.toNat : Int)] 5)) = .ok (.string ⟨[p].toArray⟩) (w.alloc (.cells #[.int .u8 (p.toNat : Int)] 5)) :=
  bs_string (bs_alloc w [p] 5 (by simp))
theorem one_string2 (w : World) (p : UInt8) (o : Obj) :
    (convert 22 9 (.slice (some ⟨w.heap.size + 1, 0, none⟩) 1 1)).run Try.prog ((w.alloc o).alloc (.cells #[.int .u8 (p.toNat : Int)] 5)) = .ok (.string ⟨[p].toArray⟩) ((w.alloc o).alloc (.cells #[.int .u8 (p.toNat : Int)] 5)) := by
  have h := one_string (w.alloc o) p
  rw [World.size_alloc] at h
  exact h
theorem great_up (p : UInt8) (h1 : 97 ≤ (p.toNat : Int)) (h2 : (p.toNat : Int) ≤ 102) : (p.toNat : Int) - 32 = ((great p).toNat : Int) := by
  unfold great
  rw [if_pos ⟨by omega, by omega⟩]
  simp
  omega
theorem great_same (p : UInt8) (h : (p.toNat : Int) < 97 ∨ 102 < (p.toNat : Int)) : great p = p := by
  unfold great
  rw [if_neg (by omega)]
theorem lets_skip (l : List UInt8) (D : UInt8) (h : skp D.toNat = true) : scan (-1) (hexOf l ++ [D] ++ [D]) = some l := by
  have := scan_between l [] [D, D] (by intro x hx; simp at hx; subst hx; exact h)
  rw [List.append_assoc, scan_hexOf]
  have h2 : scan (-1) ([D] ++ [D]) = some [] := by
    have := scan_skips [D, D] [] (by intro x hx; simp at hx; subst hx; exact h)
    rw [List.append_nil, scan_nil, if_pos (by omega)] at this
    exact this
  rw [h2]; simp
theorem lets_digit (l : List UInt8) (D : UInt8) (h : isd D.toNat = true) : ∃ r, scan (-1) (hexOf l ++ [D] ++ [D]) = some r := by
  rw [List.append_assoc, scan_hexOf, List.cons_append, List.nil_append, scan_half h (by omega), scan_whole h (hv_nonneg _), scan_nil, if_pos (by omega)]
  exact ⟨_, rfl⟩
theorem lets_none (l : List UInt8) (D : UInt8) (h1 : isd D.toNat = false) (h2 : skp D.toNat = false) : scan (-1) (hexOf l ++ [D] ++ [D]) = none := by
  rw [List.append_assoc, scan_hexOf, List.cons_append, scan_stray h1 (Or.inr h2)]; rfl
theorem lets_odd (l : List UInt8) (C : UInt8) : scan (-1) (hexOf l ++ [dg (C.toNat / 16)]) = none := by
  refine scan_odd_end _ (digits_append (digits_hexOf l) ?_) ?_
  · intro b hb; simp at hb; subst hb; exact dg_isd _ (byte_lt C)
  · rw [List.length_append, length_hexOf]; simp
theorem u8_of (n : Int) (h : (Lit.int .u8 n).wf = true) : ∃ C : UInt8, n = (C.toNat : Int) := by
  obtain ⟨h0, h1⟩ := bounds_u8 h
  exact ⟨UInt8.ofNat n.toNat, by simp; omega⟩

set_option maxHeartbeats 2000000 in
set_option maxRecDepth 100000 in
theorem hexLetters_walk (a0 : Option Addr) (len0 cap0 : Nat) (z0 : List Int) (c bad : Int) (w : World) (w0 : IsRow .u8 w a0 len0 cap0 z0) (w1 : (Lit.int .u8 c).wf = true) (w2 : (Lit.int .u8 bad).wf = true) :
    Calls Try.prog 5 #[.slice a0 len0 cap0, .int .u8 c, .int .u8 bad] w fun e w' => e = .returned (.bool true) ∧ Below w.heap.size w w' := by
  obtain ⟨C, rfl⟩ := u8_of c w1
  obtain ⟨D, rfl⟩ := u8_of bad w2
  clear w1 w2
  by_cases h1 : len0 ≤ 300
  · obtain ⟨l, rfl, hbs⟩ := row_bs w0 (by omega)
    clear w0
    have hC1 : (C.toNat : Int) < 256 := by have := C.toNat_lt; omega
    have hD1 : (D.toNat : Int) < 256 := by have := D.toNat_lt; omega
    go_enter Try.func5, Try.ntmps5
    go_wp2_with fail
    refine (awake_any _).mono ?_
    rintro e w1 ⟨rfl, hb1⟩
    go_wp2_with fail
    refine (text_any _ l _ (hbs.below hb1) (by omega)).mono ?_
    rintro e w2 ⟨rfl, hb2⟩
    have hB2 := below_next hb2 hb1
    have HLE := Lib.hid (length_hexOf l)
    have hle2 : (hexOf l).length ≤ 600 := by have := HLE.out; omega
    go_wp2
    go_loopw [9, 10, 11] (fun t i _ wr => ∃ k : Nat, k ≤ (hexOf l).length ∧ i = .int .i64 k ∧ t = .string ⟨(((hexOf l).take k).map great).toArray⟩ ∧ Below w.heap.size w wr) (fun _ i _ _ => (hexOf l).length - (intOf i).toNat)
    case atStart => exact ⟨0, by omega, rfl, rfl, hB2⟩
    case round =>
      obtain ⟨k, hk, rfl, rfl, hbw⟩ := hrel
      by_cases hlt : k < (hexOf l).length
      · obtain ⟨p, hp⟩ : ∃ p, (hexOf l)[k] = p := ⟨_, rfl⟩
        have HT := Lib.hid (show ((hexOf l).take (k + 1)).map great = ((hexOf l).take k).map great ++ [great p] by rw [take_snoc _ k hlt, List.map_append, hp]; rfl)
        have hp2 : (ByteArray.mk (hexOf l).toArray)[k]'(by simpa [ByteArray.size] using hlt) = p := hp
        have hlen : (((hexOf l).take k).map great).length ≤ 600 := by rw [List.length_map, List.length_take]; omega
        generalize ((hexOf l).take k).map great = t at *
        have hp1 : (p.toNat : Int) < 256 := by have := p.toNat_lt; omega
        clear hp
        by_cases hup : 97 ≤ (p.toNat : Int) ∧ (p.toNat : Int) ≤ 102
        · obtain ⟨u1, u2⟩ := hup
          have hq := great_up p u1 u2
          have hst := one_string wr (great p)
          generalize great p = q at *
          go_wp2
          go_roundw
          case rel =>
            refine ⟨k + 1, by omega, by go_num, ?_, hbw.alloc hbw.size _⟩
            rw [HT.out]; exact congrArg Value.string (str_app _ _)
          case measure => simp [intOf]; omega
        · have hg := great_same p (by omega)
          have hst := one_string wr p
          rw [hg] at HT
          clear hg
          have hup' : (p.toNat : Int) < 97 ∨ 102 < (p.toNat : Int) := by omega
          clear hup
          rcases hup' with hup | hup
          all_goals
            go_wp2
            go_roundw
            case rel =>
              refine ⟨k + 1, by omega, by go_num, ?_, hbw.alloc hbw.size _⟩
              rw [HT.out]; exact congrArg Value.string (str_app _ _)
            case measure => simp [intOf]; omega
      · rw [List.take_of_length_le (by omega)]
        have hl1 : ((hexOf l).map great).length ≤ 600 := by rw [List.length_map]; omega
        go_wp2_with fail
        refine (bytes_some _ l _ (by simp [ByteArray.size]; omega) (scan_great l)).mono ?_
        rintro e w3 ⟨v3, rfl, hs3, hb3⟩
        have hB3 := below_next hb3 hbw
        go_wp2_with fail
        refine (text_any _ [C] _ (bs_alloc w3 [C] 5 (by simp)) (by simp)).mono ?_
        rintro e w4 ⟨rfl, hb4⟩
        have hB4 := below_next hb4 (hB3.alloc hB3.size _)
        have hs4 := (hs3.below ((Below.refl _ w3).alloc (Nat.le_refl _) _)).below hb4
        have hsl : ∀ w, (Instr.slice 9 (.string ⟨(hexOf [C]).toArray⟩) none (some (.int .i64 1)) none).run Try.prog w = .ok (.string ⟨[dg (C.toNat / 16)].toArray⟩) w := fun w => by
          rw [run_slice_string_h w 9 _ Try.underlying9 .i64 1 (by omega) (by simp [ByteArray.size, hexOf_cons, hexOf_nil])]; rfl
        have hone : (ByteArray.mk (hexOf [C]).toArray).size = 2 := rfl
        have hone2 : (hexOf [C]).length = 2 := rfl
        go_wp2_with fail
        rw [show (ByteArray.mk (hexOf l).toArray ++ ByteArray.mk #[dg (C.toNat / 16)]) = ByteArray.mk (hexOf l ++ [dg (C.toNat / 16)]).toArray from str_app _ _]
        refine (bytes_none _ _ (by simp [ByteArray.size]; omega) (lets_odd l C)).mono ?_
        rintro e w5 ⟨rfl, hb5⟩
        have hB5 := below_next hb5 hB4
        have hs5 := hs4.below hb5
        clear hsl hone hone2 hs4 hs3
        by_cases hk : skp (D.toNat : Int) = true
        · have HI := Lib.hid (show isd (D.toNat : Int) = false by simp [skp] at hk; simp [isd]; omega)
          have HR := Lib.hid (lets_skip l D hk)
          have hk' : ((D.toNat : Int) == 32) = true ∨ (((D.toNat : Int) == 32) = false ∧ ((D.toNat : Int) == 10) = true) ∨ (((D.toNat : Int) == 32) = false ∧ ((D.toNat : Int) == 10) = false ∧ ((D.toNat : Int) == 95) = true) := by
            have h : (D.toNat : Int) = 32 ∨ (D.toNat : Int) = 10 ∨ (D.toNat : Int) = 95 := by simpa [skp] using hk
            rcases h with h | h | h
            · exact Or.inl (by rw [h]; rfl)
            · exact Or.inr (Or.inl ⟨by rw [h]; rfl, by rw [h]; rfl⟩)
            · exact Or.inr (Or.inr ⟨by rw [h]; rfl, by rw [h]; rfl, by rw [h]; rfl⟩)
          clear hk
          rcases hk' with g1 | ⟨g1, g2⟩ | ⟨g1, g2, g3⟩
          all_goals
            go_wp2_with fail
            refine (digit_is _ _ _ _ rfl HI.out).mono ?_
            rintro e w6 ⟨rfl, hb6⟩
            have hB6 := below_next hb6 hB5
            have hs6 := hs5.below hb6
            have hst1 := one_string w6 D
            have hst2 := one_string2 w6 D (.cells #[.int .u8 (D.toNat : Int)] 5)
            go_wp2_with fail
            rw [show (ByteArray.mk (hexOf l).toArray ++ ByteArray.mk #[D]) = ByteArray.mk (hexOf l ++ [D]).toArray from str_app _ _, show (ByteArray.mk (hexOf l ++ [D]).toArray ++ ByteArray.mk #[D]) = ByteArray.mk (hexOf l ++ [D] ++ [D]).toArray from str_app _ _]
            refine (bytes_some _ _ _ (by simp [ByteArray.size]; omega) HR.out).mono ?_
            rintro e w7 ⟨v7, rfl, _, hb7⟩
            have hB7 := below_next hb7 ((hB6.alloc hB6.size _).alloc (by have := hB6.size; simp; omega) _)
            have hs7 := ((hs6.below ((Below.refl _ w6).alloc (Nat.le_refl _) (.cells #[.int .u8 (D.toNat : Int)] 5))).below ((Below.refl _ _).alloc (Nat.le_refl _) (.cells #[.int .u8 (D.toNat : Int)] 5))).below hb7
            have hcv1 := bs_string hs7
            have hcv2 := bs_string (hbs.below hB7)
            clear hst1 hst2
            go_wp2
            go_ret
            exact ⟨rfl, hB7⟩
        · have hk2 : skp (D.toNat : Int) = false := by simpa using hk
          have g1 : ((D.toNat : Int) == 32) = false := by simp [skp] at hk2; rw [beq_eq_false_iff_ne]; omega
          have g2 : ((D.toNat : Int) == 10) = false := by simp [skp] at hk2; rw [beq_eq_false_iff_ne]; omega
          have g3 : ((D.toNat : Int) == 95) = false := by simp [skp] at hk2; rw [beq_eq_false_iff_ne]; omega
          have HK := Lib.hid hk2
          clear hk hk2
          by_cases hd : isd (D.toNat : Int) = true
          · have HI := Lib.hid hd
            have hd8 : (D.toNat : Int) < 128 := (isd_lt hd).1
            obtain ⟨r, hr⟩ := lets_digit l D hd
            have HR := Lib.hid hr
            clear hr hd
            go_wp2_with fail
            refine (digit_is _ _ _ _ rfl HI.out).mono ?_
            rintro e w6 ⟨rfl, hb6⟩
            have hB6 := below_next hb6 hB5
            have hs6 := hs5.below hb6
            have hst1 := one_string w6 D
            have hst2 := one_string2 w6 D (.cells #[.int .u8 (D.toNat : Int)] 5)
            go_wp2_with fail
            rw [show (ByteArray.mk (hexOf l).toArray ++ ByteArray.mk #[D]) = ByteArray.mk (hexOf l ++ [D]).toArray from str_app _ _, show (ByteArray.mk (hexOf l ++ [D]).toArray ++ ByteArray.mk #[D]) = ByteArray.mk (hexOf l ++ [D] ++ [D]).toArray from str_app _ _]
            refine (bytes_some _ _ _ (by simp [ByteArray.size]; omega) HR.out).mono ?_
            rintro e w7 ⟨v7, rfl, _, hb7⟩
            have hB7 := below_next hb7 ((hB6.alloc hB6.size _).alloc (by have := hB6.size; simp; omega) _)
            have hs7 := ((hs6.below ((Below.refl _ w6).alloc (Nat.le_refl _) (.cells #[.int .u8 (D.toNat : Int)] 5))).below ((Below.refl _ _).alloc (Nat.le_refl _) (.cells #[.int .u8 (D.toNat : Int)] 5))).below hb7
            have hcv1 := bs_string hs7
            have hcv2 := bs_string (hbs.below hB7)
            clear hst1 hst2
            go_wp2
            go_ret
            exact ⟨rfl, hB7⟩
          · have hd2 : isd (D.toNat : Int) = false := by simpa using hd
            have HI := Lib.hid hd2
            have HR := Lib.hid (lets_none l D hd2 HK.out)
            clear hd hd2
            go_wp2_with fail
            refine (digit_is _ _ _ _ rfl HI.out).mono ?_
            rintro e w6 ⟨rfl, hb6⟩
            have hB6 := below_next hb6 hB5
            have hs6 := hs5.below hb6
            have hst1 := one_string w6 D
            have hst2 := one_string2 w6 D (.cells #[.int .u8 (D.toNat : Int)] 5)
            go_wp2_with fail
            rw [show (ByteArray.mk (hexOf l).toArray ++ ByteArray.mk #[D]) = ByteArray.mk (hexOf l ++ [D]).toArray from str_app _ _, show (ByteArray.mk (hexOf l ++ [D]).toArray ++ ByteArray.mk #[D]) = ByteArray.mk (hexOf l ++ [D] ++ [D]).toArray from str_app _ _]
            refine (bytes_none _ _ (by simp [ByteArray.size]; omega) HR.out).mono ?_
            rintro e w7 ⟨rfl, hb7⟩
            have hB7 := below_next hb7 ((hB6.alloc hB6.size _).alloc (by have := hB6.size; simp; omega) _)
            have hs7 := ((hs6.below ((Below.refl _ w6).alloc (Nat.le_refl _) (.cells #[.int .u8 (D.toNat : Int)] 5))).below ((Below.refl _ _).alloc (Nat.le_refl _) (.cells #[.int .u8 (D.toNat : Int)] 5))).below hb7
            have hcv1 := bs_string hs7
            have hcv2 := bs_string (hbs.below hB7)
            clear hst1 hst2
            go_wp2
            go_ret
            exact ⟨rfl, hB7⟩
  · have h3 : 300 < len0 := by omega
    clear w0 h1
    go_enter Try.func5, Try.ntmps5
    go_wp2_with fail
    refine (awake_any _).mono ?_
    rintro e w1 ⟨rfl, hb1⟩
    go_wp2
    go_ret
    exact ⟨rfl, hb1⟩
end Go.Proofs.Ythfjlihfgmmomaa
