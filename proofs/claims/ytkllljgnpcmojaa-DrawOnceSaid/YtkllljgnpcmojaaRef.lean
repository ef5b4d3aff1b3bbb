/- The document's Digit, Text and Bytes. -/
import Derived.Test.YtkllljgnpcmojaaBytes
import Derived.Test.YtkllljgnpcmojaaText
namespace Go.Proofs.Ytkllljgnpcmojaa
open Go Go.RowKit

set_option maxHeartbeats 400000 in
theorem refdigit_any (c : Int) (w : World) :
    Calls Try.prog 36 #[.int .i32 c] w fun e w' => e = .returned (.tuple #[.int .i64 (hv c), .bool (isd c)]) ∧ w = w' := by
  unfold hv isd
  by_cases h1 : 48 ≤ c ∧ c ≤ 57
  · rw [if_pos h1, decide_eq_true (Or.inl h1)]
    obtain ⟨h1, h2⟩ := h1
    go_enter Try.func36, Try.ntmps36
    go_wp2
    go_ret2
    exact ⟨rfl, rfl⟩
  · by_cases h2 : 97 ≤ c ∧ c ≤ 102
    · rw [if_neg h1, if_pos h2, decide_eq_true (Or.inr (Or.inl h2))]
      obtain ⟨h2, h3⟩ := h2
      clear h1
      go_enter Try.func36, Try.ntmps36
      go_wp2
      go_ret2
      exact ⟨by rw [show c - 87 = c - 97 + 10 by omega]; rfl, rfl⟩
    · by_cases h3 : 65 ≤ c ∧ c ≤ 70
      · rw [if_neg h1, if_neg h2, if_pos h3, decide_eq_true (Or.inr (Or.inr h3))]
        obtain ⟨h3, h4⟩ := h3
        clear h1 h2
        go_enter Try.func36, Try.ntmps36
        go_wp2
        go_ret2
        exact ⟨by rw [show c - 55 = c - 65 + 10 by omega]; rfl, rfl⟩
      · rw [if_neg h1, if_neg h2, if_neg h3, decide_eq_false (by omega)]
        go_enter Try.func36, Try.ntmps36
        have h5 : c < 48 ∨ (57 < c ∧ c < 65) ∨ (70 < c ∧ c < 97) ∨ 102 < c := by omega
        clear h1 h2 h3
        rcases h5 with h5 | ⟨h5, h6⟩ | ⟨h5, h6⟩ | h5
        all_goals
          go_wp2
          go_ret2
          exact ⟨rfl, rfl⟩

theorem byte_of (k : Int) (h0 : 0 ≤ k) (h1 : k < 256) : Value.int IntKind.u8 k = bv (UInt8.ofNat k.toNat) := by
  obtain ⟨n, rfl⟩ := Int.eq_ofNat_of_zero_le h0
  unfold bv
  congr 1
  simp
  omega
theorem str_app (a b : List UInt8) : (⟨a.toArray⟩ : ByteArray) ++ ⟨b.toArray⟩ = ⟨(a ++ b).toArray⟩ := by
  apply ByteArray.ext
  simp [ByteArray.data_append]
theorem two_string (w : World) (p q : UInt8) :
    (convert 41 9 (.slice (some ⟨w.heap.size, 0, none⟩) 2 2)).run Try.prog (w.alloc (.cells #[.int .u8 (p.toNat : Int), .int .u8 (q.toNat : Int)] 5)).drew = .ok (.string ⟨#[p, q]⟩) (w.alloc (.cells #[.int .u8 (p.toNat : Int), .int .u8 (q.toNat : Int)] 5)).drew := by
  have h := run_convert_bytes_arg (P := Try.prog) ((w.alloc (.cells #[.int .u8 (p.toNat : Int), .int .u8 (q.toNat : Int)] 5)).drew) 41 5 Try.underlying41 Try.underlying5 w.heap.size 0 2 2 [(p.toNat : Int), (q.toNat : Int)] rfl (fun i hi => ?_) 9 Try.underlying9
  · rw [h]; simp [strOfNums]
  · match i, hi with
    | 0, _ => go_simp
    | 1, _ => go_simp

set_option maxHeartbeats 400000 in
set_option maxRecDepth 100000 in
theorem reftext_any (v : Value) (l : List UInt8) (w : World) (hv : Bs w v l) (hl : l.length ≤ 35184372088832) :
    Calls Try.prog 33 #[v] w fun e w' => e = .returned (.string ⟨(hexOf l).toArray⟩) ∧ Below w.heap.size w w' := by
  obtain ⟨a, cap, rfl, _, _, hcell⟩ := hv
  go_enter Try.func33, Try.ntmps33
  go_wp2
  go_loopw [4, 5] (fun t i wr => ∃ k : Nat, k ≤ l.length ∧ i = .int .i64 k ∧ t = .string ⟨(hexOf (l.take k)).toArray⟩ ∧ Below w.heap.size w wr) (fun _ i _ => l.length - (intOf i).toNat)
  case atStart => exact ⟨0, by omega, rfl, rfl, Below.refl _ w⟩
  case round =>
    obtain ⟨k, hk, rfl, rfl, hbw⟩ := hrel
    by_cases hlt : k < l.length
    · obtain ⟨b, off, ha, hb, hc⟩ := hcell (by intro h; simp [h] at hlt)
      subst ha
      obtain ⟨x, hx⟩ : ∃ x, l[k] = x := ⟨_, rfl⟩
      have hc1 : wr.cell? ⟨b, off + k, none⟩ = some (.int .u8 x.toNat) := (hbw.cell (p := ⟨b, off + k, none⟩) hb).trans (by rw [hc k hlt, List.getElem?_eq_getElem hlt, hx]; rfl)
      have HT := Lib.hid (show hexOf (l.take (k + 1)) = (hexOf (l.take k) ++ [dg (x.toNat / 16)]) ++ [dg (x.toNat % 16)] by rw [take_snoc l k hlt, hexOf_snoc, hx])
      have hlen : (hexOf (l.take k)).length ≤ 2 * k := by rw [length_hexOf, List.length_take]; omega
      have hx1 : (x.toNat : Int) < 256 := by have := x.toNat_lt; omega
      clear hcell hc hx
      have hd := fun n h => dg_at n h
      generalize hexOf (l.take k) = t at *
      have hcv := two_string wr (dg (x.toNat / 16)) (dg (x.toNat % 16))
      go_wp2
      go_region
      go_wp2
      go_roundw
      case rel =>
        refine ⟨k + 1, by omega, by go_num, ?_, ?_⟩
        · rw [HT.out, List.append_assoc]; exact congrArg Value.string (str_app _ _)
        · exact (hbw.alloc hbw.size _).drew
      case measure => simp [intOf]; omega
    · go_wp2
      go_ret
      rw [List.take_of_length_le (by omega)]
      exact ⟨rfl, hbw⟩

theorem reads_err {w : World} {l : List UInt8} (h : scan (-1) l = none) {w' : World} : Reads w (scan (-1) l) (.returned (.tuple #[.slice none 0 0, .int .i64 20])) w' := Or.inr ⟨h, rfl⟩

set_option maxHeartbeats 1000000 in
set_option maxRecDepth 100000 in
theorem refbytes_any (s : ByteArray) (w : World) (hs : s.size ≤ 35184372088832) :
    Calls Try.prog 28 #[.string s] w fun e w' => Reads w (scan (-1) s.data.toList) e w' ∧ Below w.heap.size w w' := by
  go_enter Try.func28, Try.ntmps28
  go_wp2
  obtain ⟨i0, hi, hz0, hz1, hz2⟩ := info_parts info5
  go_loopw [4, 5, 6, 7, 8, 9] (fun v i a is b too wr => ∃ (pos : Nat) (acc : List UInt8), i = .int .i64 pos ∧ pos ≤ s.size ∧ acc.length ≤ pos ∧
      wr.ownsRow w.heap.size 5 1 v acc.length (acc.map bv) ∧ Below w.heap.size w wr ∧ comes acc (-1) (s.data.toList.drop pos) = scan (-1) s.data.toList) (fun _ i _ _ _ _ _ => s.size - (intOf i).toNat)
  case atStart => exact ⟨0, [], rfl, by omega, by simp, World.ownsRow_nil _ _ _ _, Below.refl _ w, by simp [comes]⟩
  case round =>
    obtain ⟨pos, acc, rfl, hpos, hacc, hown, hbw, hcm⟩ := hrel
    by_cases hp : pos < s.size
    · have hl : pos < s.data.toList.length := by simpa using hp
      have hdrop : s.data.toList.drop pos = s.data.toList[pos] :: s.data.toList.drop (pos + 1) := List.drop_eq_getElem_cons hl
      have hsb : s.data.toList[pos] = s[pos]'hp := rfl
      rw [hdrop, hsb] at hcm
      obtain ⟨x, hx⟩ : ∃ x, s[pos]'hp = x := ⟨_, rfl⟩
      rw [hx] at hcm
      clear hdrop hsb hl
      have hx1 : (x.toNat : Int) < 256 := by have := x.toNat_lt; omega
      by_cases hsk : skp (x.toNat : Int) = true
      · have hnd : isd (x.toNat : Int) = false := by simp [skp] at hsk; simp [isd]; omega
        have HC : Hid (comes acc (-1) (s.data.toList.drop (pos + 1)) = scan (-1) s.data.toList) := by
          show _ = _
          rw [← hcm]; unfold comes; rw [scan_skip hnd (by omega) hsk]
        have hsk' : (x.toNat : Int) = 32 ∨ (x.toNat : Int) = 10 ∨ (x.toNat : Int) = 95 := by simpa [skp] using hsk
        clear hcm hnd hsk
        rcases hsk' with hsk | hsk | hsk
        all_goals
          go_wp2
          go_roundw
          case rel => exact ⟨pos + 1, acc, by go_num, by omega, by omega, hown, hbw, HC.out⟩
          case measure => simp [intOf]; omega
      · have hskf : skp (x.toNat : Int) = false := by simpa using hsk
        have g1 : ((x.toNat : Int) == 32) = false := by simp [skp] at hskf; simp; omega
        have g2 : ((x.toNat : Int) == 10) = false := by simp [skp] at hskf; simp; omega
        have g3 : ((x.toNat : Int) == 95) = false := by simp [skp] at hskf; simp; omega
        by_cases hp1 : pos + 1 < s.size
        · have hl1 : pos + 1 < s.data.toList.length := by simpa using hp1
          have hdrop1 : s.data.toList.drop (pos + 1) = s.data.toList[pos + 1] :: s.data.toList.drop (pos + 2) := List.drop_eq_getElem_cons hl1
          have hsb1 : s.data.toList[pos + 1] = s[pos + 1]'hp1 := rfl
          obtain ⟨y, hy⟩ : ∃ y, s[pos + 1]'hp1 = y := ⟨_, rfl⟩
          rw [hdrop1, hsb1, hy] at hcm
          clear hdrop1 hsb1 hl1
          have hy1 : (y.toNat : Int) < 256 := by have := y.toNat_lt; omega
          by_cases hx2 : 127 < (x.toNat : Int)
          · have HC : Hid (scan (-1) s.data.toList = none) := by
              show _ = _
              rw [← hcm]; unfold comes; rw [scan_stray (by simp [isd]; omega) (Or.inr hskf)]; rfl
            clear hcm hskf hsk
            go_wp2
            go_ret2
            exact ⟨reads_err HC.out, hbw⟩
          · by_cases hy2 : 127 < (y.toNat : Int)
            · have HC : Hid (scan (-1) s.data.toList = none) := by
                show _ = _
                rw [← hcm]; unfold comes
                cases hd : isd (x.toNat : Int) with
                | true => rw [scan_half hd (by omega), scan_stray (by simp [isd]; omega) (Or.inl (hv_nonneg _))]; rfl
                | false => rw [scan_stray hd (Or.inr hskf)]; rfl
              clear hcm hskf hsk
              have hx3 : (x.toNat : Int) ≤ 127 := by omega
              clear hx2
              go_wp2
              go_ret2
              exact ⟨reads_err HC.out, hbw⟩
            · have hx3 : (x.toNat : Int) ≤ 127 := by omega
              have hy3 : (y.toNat : Int) ≤ 127 := by omega
              clear hx2 hy2
              have Hdx := fun w => Lib.hid (refdigit_any (x.toNat : Int) w)
              have Hdy := fun w => Lib.hid (refdigit_any (y.toNat : Int) w)
              have hv0 := hv_nonneg (x.toNat : Int)
              have hv1 := hv_lt (x.toNat : Int)
              have hv2 := hv_nonneg (y.toNat : Int)
              have hv3 := hv_lt (y.toNat : Int)
              by_cases hd : isd (x.toNat : Int) = true ∧ isd (y.toNat : Int) = true
              · obtain ⟨hd1, hd2⟩ := hd
                have HC : Hid (comes (acc ++ [UInt8.ofNat (16 * hv (x.toNat : Int) + hv (y.toNat : Int)).toNat]) (-1) (s.data.toList.drop (pos + 2)) = scan (-1) s.data.toList) := by
                  show _ = _
                  rw [← hcm]
                  unfold comes
                  rw [scan_half hd1 (by omega), scan_whole hd2 hv0, Option.map_map]
                  congr 1
                  funext r
                  simp
                have H1 := Lib.hid hd1
                have H2 := Lib.hid hd2
                clear hcm hskf hsk hd1 hd2
                generalize hv (x.toNat : Int) = m at *
                generalize hv (y.toNat : Int) = n at *
                go_wp2_with fail
                refine ((Hdx _).out).mono ?_
                rintro e w1 ⟨rfl, rfl⟩
                rw [H1.out]
                go_wp2_with fail
                refine ((Hdy _).out).mono ?_
                rintro e w1 ⟨rfl, rfl⟩
                rw [H2.out]
                go_wp2_with (at_builtin; refine wpList_append_own _ rfl _ _ 41 rfl w.heap.size 5 i0 (.int .u8 0) 1 1 Try.underlying41 hi hz0 hz1 hz2 rfl (by decide) _ _ _ rfl (hown.alloc _) ⟨wr.heap.size, 0, none⟩ 1 1 [_] rfl rfl (cell_one_new _ _ _) ?c2 ?c3 ?c4 ?c5 ?_)
                case c2 => intro u hu; simp at hu; subst hu; rfl
                case c3 => unfold maxLen; omega
                case c4 => omega
                case c5 => have := hbw.size; simp; omega
                intro v' w4 hown' hgrow _
                have hb4 : Below w.heap.size w w4 := by
                  refine hbw.trans ?_
                  refine ((Below.refl _ wr).alloc hbw.size _).grown hgrow (by have := hbw.size; simp; omega) (fun k hk => ?_)
                  exact (hown.lt k hk).1
                rw [byte_of (16 * m + n) (by omega) (by omega)] at hown'
                have HO := Lib.hid hown'
                clear hown' hgrow hown
                go_wp2
                go_roundw
                case rel => exact ⟨pos + 2, acc ++ [UInt8.ofNat (16 * m + n).toNat], by go_num, by omega, by simp; omega, by have := HO.out; simpa using this, hb4, HC.out⟩
                case measure => simp [intOf]; omega
              · have HC : Hid (scan (-1) s.data.toList = none) := by
                  show _ = _
                  rw [← hcm]
                  unfold comes
                  cases hd1 : isd (x.toNat : Int) with
                  | false => rw [scan_stray hd1 (Or.inr hskf)]; rfl
                  | true =>
                    rw [scan_half hd1 (by omega)]
                    rw [scan_stray (by cases hd2 : isd (y.toNat : Int) with | false => rfl | true => exact absurd ⟨hd1, hd2⟩ hd) (Or.inl hv0)]
                    rfl
                have hcase : Hid (isd (x.toNat : Int) = false) ∨ (Hid (isd (x.toNat : Int) = true) ∧ Hid (isd (y.toNat : Int) = false)) := by
                  cases hd1 : isd (x.toNat : Int) with
                  | false => exact Or.inl rfl
                  | true =>
                    cases hd2 : isd (y.toNat : Int) with
                    | false => exact Or.inr ⟨rfl, rfl⟩
                    | true => exact absurd ⟨hd1, hd2⟩ hd
                clear hcm hskf hsk hd
                rcases hcase with H1 | ⟨H1, H2⟩
                · go_wp2_with fail
                  refine ((Hdx _).out).mono ?_
                  rintro e w1 ⟨rfl, rfl⟩
                  rw [H1.out]
                  go_wp2_with fail
                  refine ((Hdy _).out).mono ?_
                  rintro e w1 ⟨rfl, rfl⟩
                  go_wp2
                  go_ret2
                  exact ⟨reads_err HC.out, hbw⟩
                · go_wp2_with fail
                  refine ((Hdx _).out).mono ?_
                  rintro e w1 ⟨rfl, rfl⟩
                  rw [H1.out]
                  go_wp2_with fail
                  refine ((Hdy _).out).mono ?_
                  rintro e w1 ⟨rfl, rfl⟩
                  rw [H2.out]
                  go_wp2
                  go_ret2
                  exact ⟨reads_err HC.out, hbw⟩
        · have HC : Hid (scan (-1) s.data.toList = none) := by
            show _ = _
            have hd1 : s.data.toList.drop (pos + 1) = [] := List.drop_of_length_le (by simp; exact Nat.le_of_not_lt hp1)
            rw [← hcm, hd1]; unfold comes
            cases hd : isd (x.toNat : Int) with
            | true => rw [scan_half hd (by omega), scan_nil, if_neg (by have := hv_nonneg (x.toNat : Int); omega)]; rfl
            | false => rw [scan_stray hd (Or.inr hskf)]; rfl
          have hp2 : s.size ≤ pos + 1 := by omega
          clear hcm hskf hsk hp1
          go_wp2
          go_ret2
          exact ⟨reads_err HC.out, hbw⟩
    · have hd0 : s.data.toList.drop pos = [] := List.drop_of_length_le (by simp; exact Nat.le_of_not_lt hp)
      rw [hd0] at hcm
      have HC : Hid (scan (-1) s.data.toList = some acc) := by show _ = _; rw [← hcm]; unfold comes; rw [scan_nil, if_pos (by omega)]; simp
      clear hcm hd0
      go_wp2
      go_ret2
      exact ⟨Or.inl ⟨acc, _, HC.out, rfl, hown⟩, hbw⟩
end Go.Proofs.Ytkllljgnpcmojaa
