/- The walk of the law HexHalf. -/
import Derived.Test.YthfjlihfgmmomaaLSizes
import Derived.Deep.RegionHeld3
namespace Go.Proofs.Ythfjlihfgmmomaa
open Go Go.RowKit

/-- A slice that reads as l, and no error. -/
def Got (w : World) (l : List UInt8) (e : Ending) (w' : World) : Prop := ∃ v, e = .returned (.tuple #[v, .int .i64 0]) ∧ Bs w' v l ∧ Below w.heap.size w w'
theorem bytes_some (s : ByteArray) (l : List UInt8) (w : World) (hs : s.size ≤ 35184372088832) (h : scan (-1) s.data.toList = some l) :
    Calls Try.prog 11 #[.string s] w (Got w l) := by
  refine (bytes_any s w hs).mono ?_
  rintro e w' ⟨⟨out, v, ho, he, hown⟩ | ⟨hn, _⟩, hb⟩
  · rw [h] at ho
    obtain rfl := Option.some.inj ho
    have := scan_len _ _ _ h
    have h2 : s.data.toList.length = s.size := by simp
    exact ⟨v, he, own_bs hown (by omega), hb⟩
  · rw [h] at hn; cases hn
theorem bytes_none (s : ByteArray) (w : World) (hs : s.size ≤ 35184372088832) (h : scan (-1) s.data.toList = none) :
    Calls Try.prog 11 #[.string s] w fun e w' => e = .returned (.tuple #[.slice none 0 0, .int .i64 20]) ∧ Below w.heap.size w w' := by
  refine (bytes_any s w hs).mono ?_
  rintro e w' ⟨⟨out, v, ho, _⟩ | ⟨_, he⟩, hb⟩
  · rw [h] at ho; cases ho
  · exact ⟨he, hb⟩
theorem sub_one (b off len cap k : Nat) (h1 : k < len) (h2 : len ≤ cap) (w : World) :
    (Instr.slice 22 (.slice (some ⟨b, off, none⟩) len cap) (some (.int .i64 (k : Int))) (some (.int .i64 ((k : Int) + 1))) none).run Try.prog w = .ok (.slice (some ⟨b, off + k, none⟩) 1 (cap - k)) w := by
  have h3 : ¬ cap = k := by omega
  rw [run_slice_lh w 22 _ len cap (by kernel_rfl) .i64 .i64 (k : Int) ((k : Int) + 1) (by omega) (by omega) (by omega)]
  have hs : (sizeOf (Try.prog.elem 22)).run Try.prog w = .ok 1 w := by kernel_rfl
  rw [hs]
  have e1 : ((k : Int) + 1).toNat = k + 1 := by omega
  simp only [Result.andThen, sliced, Int.toNat_natCast, e1, if_neg h3, Option.map_some, Nat.mul_one, Nat.add_sub_cancel_left]
  rw [Go.WideShapes.add_plain]
theorem ext_list (l : List UInt8) (a b : Nat) : ((ByteArray.mk l.toArray).extract a b).data.toList = (l.take b).drop a := by
  simp [ByteArray.data_extract, List.drop_take]
theorem half_one (l : List UInt8) (k : Nat) (hk : k < l.length) : scan (-1) ((ByteArray.mk (hexOf l).toArray).extract (2 * k) (2 * k + 2)).data.toList = some [l[k]] := by
  rw [ext_list, show 2 * k + 2 = 2 * (k + 1) by omega, hexOf_take, hexOf_drop, take_snoc l k hk, List.drop_append_of_le_length (by simp; omega), List.drop_of_length_le (by simp; omega), List.nil_append]
  exact scan_hexOf_all _
theorem half_two (l : List UInt8) (k : Nat) (hk : k < l.length) : scan (-1) ((ByteArray.mk (hexOf l).toArray).extract 0 (2 * k + 1)).data.toList = none := by
  rw [ext_list, List.drop_zero]
  exact scan_odd_end _ (digits_take (digits_hexOf l) _) (by rw [List.length_take, length_hexOf]; omega)
theorem half_three (l : List UInt8) (k : Nat) (hk : k < l.length) : scan (-1) ((ByteArray.mk (hexOf l).toArray).extract 0 (2 * k) ++ (ByteArray.mk (hexOf l).toArray).extract (2 * k + 1) (ByteArray.mk (hexOf l).toArray).size).data.toList = none := by
  rw [ByteArray.data_append, Array.toList_append, ext_list, ext_list, List.drop_zero]
  have hs : (ByteArray.mk (hexOf l).toArray).size = (hexOf l).length := by simp [ByteArray.size]
  rw [hs, List.take_length]
  refine scan_odd_end _ (digits_append (digits_take (digits_hexOf l) _) (digits_drop (digits_hexOf l) _)) ?_
  rw [List.length_append, List.length_take, List.length_drop, length_hexOf]; omega
theorem half_four (l : List UInt8) (k : Nat) (hk : k < l.length) : scan (-1) ((ByteArray.mk (hexOf l).toArray).extract 0 (2 * k + 1) ++ ByteArray.mk #[32] ++ (ByteArray.mk (hexOf l).toArray).extract (2 * k + 1) (ByteArray.mk (hexOf l).toArray).size).data.toList = none := by
  rw [ByteArray.data_append, Array.toList_append, ByteArray.data_append, Array.toList_append, ext_list, List.drop_zero, List.append_assoc]
  exact scan_odd _ _ _ (digits_take (digits_hexOf l) _) (Or.inl ⟨by omega, by rw [List.length_take, length_hexOf]; omega⟩) (by rintro b r' h; simp at h; obtain ⟨rfl, _⟩ := h; decide)

set_option maxHeartbeats 1000000 in
set_option maxRecDepth 100000 in
theorem hexHalf_walk (a0 : Option Addr) (len0 cap0 : Nat) (z0 : List Int) (at1 : Int) (w : World) (w0 : IsRow .u8 w a0 len0 cap0 z0) (w1 : (Lit.int .u16 at1).wf = true) :
    Calls Try.prog 7 #[.slice a0 len0 cap0, .int .u16 at1] w fun e w' => e = .returned (.bool true) ∧ Below w.heap.size w w' := by
  by_cases h1 : len0 ≤ 300
  · by_cases h0 : len0 = 0
    · subst h0
      clear w0
      go_enter Try.func7, Try.ntmps7
      go_wp2_with fail
      refine (awake_any _).mono ?_
      rintro e w1 ⟨rfl, hb1⟩
      go_wp2
      go_ret
      exact ⟨rfl, hb1⟩
    · have hcap : len0 ≤ cap0 := by
        rcases w0 with ⟨_, rfl, rfl, _⟩ | ⟨_, _, h, _⟩
        · exact Nat.le_refl _
        · exact h
      obtain ⟨l, rfl, hbs⟩ := row_bs w0 (by omega)
      obtain ⟨gp0, gp1⟩ := bounds_u16 w1
      clear w0 w1
      have h2 : 0 < l.length := by omega
      have g0 : ((l.length : Int) == 0) = false := by rw [beq_eq_false_iff_ne]; omega
      clear h0
      go_enter Try.func7, Try.ntmps7
      go_wp2_with fail
      refine (awake_any _).mono ?_
      rintro e w1 ⟨rfl, hb1⟩
      go_wp2_with fail
      refine (text_any _ l _ (hbs.below hb1) (by omega)).mono ?_
      rintro e w2 ⟨rfl, hb2⟩
      have hB2 := below_next hb2 hb1
      have hsz : ((ByteArray.mk (hexOf l).toArray).size : Int) = 2 * (l.length : Int) := by simp [ByteArray.size, length_hexOf]
      have hsz2 : ((hexOf l).length : Int) = 2 * (l.length : Int) := by rw [length_hexOf]; omega
      have g1 : (((hexOf l).length : Int) != 2 * (l.length : Int)) = false := by simp; omega
      have HZ := Lib.hid hsz2
      obtain ⟨k, hk, hke⟩ : ∃ k : Nat, k < l.length ∧ (k : Int) = at1 % (l.length : Int) := ⟨(at1 % (l.length : Int)).toNat, by
        have := Int.emod_lt_of_pos at1 (show (0 : Int) < l.length by omega)
        have := Int.emod_nonneg at1 (show (l.length : Int) ≠ 0 by omega)
        omega, by
        have := Int.emod_nonneg at1 (show (l.length : Int) ≠ 0 by omega)
        omega⟩
      have hkr := hke.symm
      clear hsz hsz2 hke
      have hle : (hexOf l).length = 2 * l.length := length_hexOf l
      have HLE := Lib.hid hle
      have hle1 : 2 * (k : Int) + 2 ≤ ((hexOf l).length : Int) := by omega
      clear hle
      go_wp2_with fail
      refine (bytes_some _ [l[k]] _ (by simp [ByteArray.size]; omega) (half_one l k hk)).mono ?_
      rintro e w3 ⟨v3, rfl, hs3, hb3⟩
      have hB3 := below_next hb3 hB2
      go_wp2_with fail
      refine (bytes_none _ _ (by simp [ByteArray.size]; omega) (half_two l k hk)).mono ?_
      rintro e w4 ⟨rfl, hb4⟩
      have hB4 := below_next hb4 hB3
      have hs4 := hs3.below hb4
      have hle2 : (hexOf l).length ≤ 600 := by have := HLE.out; omega
      have hwr : IntKind.i64.wrap (2 * (k : Int)) = 2 * (k : Int) := IntWalk.i64_in _ (by omega)
      have hwr2 : IntKind.i64.wrap (2 * (k : Int) + 1) = 2 * (k : Int) + 1 := IntWalk.i64_in _ (by omega)
      obtain ⟨X, hX⟩ : ∃ X : ByteArray, X = ⟨(hexOf l).toArray⟩ := ⟨_, rfl⟩
      have hXs : X.size = (hexOf l).length := by rw [hX]; simp [ByteArray.size]
      obtain ⟨A, hA⟩ : ∃ A : ByteArray, A = X.extract 0 (2 * k) := ⟨_, rfl⟩
      obtain ⟨B, hB⟩ : ∃ B : ByteArray, B = X.extract (2 * k + 1) X.size := ⟨_, rfl⟩
      obtain ⟨D, hD⟩ : ∃ D : ByteArray, D = X.extract 0 (2 * k + 1) := ⟨_, rfl⟩
      have hAs : A.size ≤ 600 := by rw [hA, ByteArray.size_extract, hXs]; omega
      have hBs : B.size ≤ 600 := by rw [hB, ByteArray.size_extract, Nat.min_self, hXs]; omega
      have hDs : D.size ≤ 600 := by rw [hD, ByteArray.size_extract, hXs]; omega
      obtain ⟨C, hC⟩ : ∃ C : ByteArray, C = A ++ B := ⟨_, rfl⟩
      obtain ⟨E, hE⟩ : ∃ E : ByteArray, E = D ++ ByteArray.mk #[32] := ⟨_, rfl⟩
      obtain ⟨F, hF⟩ : ∃ F : ByteArray, F = E ++ B := ⟨_, rfl⟩
      have hCs : C.size ≤ 1200 := by rw [hC, ByteArray.size_append]; omega
      have h32 : (ByteArray.mk #[32]).size = 1 := rfl
      have hEs : E.size ≤ 601 := by rw [hE, ByteArray.size_append, h32]; omega
      have hFs : F.size ≤ 1201 := by rw [hF, ByteArray.size_append]; omega
      have H3 := Lib.hid (show scan (-1) C.data.toList = none by rw [hC, hA, hB, hX]; exact half_three l k hk)
      have H4 := Lib.hid (show scan (-1) F.data.toList = none by rw [hF, hE, hD, hB, hX]; exact half_four l k hk)
      have hsl1 : ∀ w, (Instr.slice 9 (.string X) none (some (.int .i64 (2 * (k : Int)))) none).run Try.prog w = .ok (.string A) w := fun w => by
        rw [run_slice_string_h w 9 X Try.underlying9 .i64 (2 * (k : Int)) (by omega) (by omega), hA]; rfl
      have hsl2 : ∀ w, (Instr.slice 9 (.string X) (some (.int .i64 (2 * (k : Int) + 1))) none none).run Try.prog w = .ok (.string B) w := fun w => by
        rw [run_slice_string_l w 9 X Try.underlying9 .i64 (2 * (k : Int) + 1) (by omega) (by omega), hB]; rfl
      have hsl3 : ∀ w, (Instr.slice 9 (.string X) none (some (.int .i64 (2 * (k : Int) + 1))) none).run Try.prog w = .ok (.string D) w := fun w => by
        rw [run_slice_string_h w 9 X Try.underlying9 .i64 (2 * (k : Int) + 1) (by omega) (by omega), hD]; rfl
      have hcat1 : ∀ w, (Op.stringOp .add A B).run Try.prog w = .ok (.string C) w := fun w => by rw [run_string_add_sum w A B (by omega), hC]
      have hcat2 : ∀ w, (Op.stringOp .add D (ByteArray.mk #[32])).run Try.prog w = .ok (.string E) w := fun w => by rw [run_string_add_sum w D _ (by rw [h32]; omega), hE]
      have hcat3 : ∀ w, (Op.stringOp .add E B).run Try.prog w = .ok (.string F) w := fun w => by rw [run_string_add_sum w E B (by omega), hF]
      rw [← hX]
      clear hX hXs hA hB hD hC hE hF hAs hBs hDs hEs h32 HZ HLE g1
      have h20 : Below w4.heap.size w4 w4.drew := (Below.refl _ _).drew
      go_wp2
      go_region_held3 (fun w' => Below w4.heap.size w4 w') (first | assumption | exact below_next ‹_› ‹_›) (first | (go_at_call 11; refine (bytes_none _ _ ?_ H3.out).mono ?_; omega; rintro e w5 ⟨rfl, hb5⟩))
      rename_i w5 hb5 hB5
      have hBW5 := below_next hB5 hB4
      have hs5 := hs4.below hB5
      clear hb5 h20 H3
      have h20 : Below w5.heap.size w5 w5.drew := (Below.refl _ _).drew
      go_wp2
      go_region_held3 (fun w' => Below w5.heap.size w5 w') (first | assumption | exact below_next ‹_› ‹_›) (first | (go_at_call 11; refine (bytes_none _ _ ?_ H4.out).mono ?_; omega; rintro e w6 ⟨rfl, hb6⟩))
      rename_i w6 hb6 hB6
      have hBW6 := below_next hB6 hBW5
      have hs6 := hs5.below hB6
      clear hb6 h20 H4 hsl1 hsl2 hsl3 hcat1 hcat2 hcat3
      obtain ⟨b, off, rfl, hb, hc⟩ := bs_cell hbs k hk
      have hone : Bs w6 (.slice (some ⟨b, off + k, none⟩) 1 (cap0 - k)) [l[k]] := by
        refine ⟨_, _, rfl, (fun h => by cases h), by simp, fun _ => ⟨b, off + k, rfl, Nat.lt_of_lt_of_le hb hBW6.size, fun j hj => ?_⟩⟩
        obtain rfl : j = 0 := by simpa using hj
        rw [hBW6.cell (p := ⟨b, off + k + 0, none⟩) hb]
        exact hc
      have hcv1 : ∀ n, (convert 22 9 v3).run Try.prog (w6.drewN n) = .ok (.string ⟨#[l[k]]⟩) (w6.drewN n) := fun n => bs_string (hs6.below (below_drawn _ w6 n))
      have hcv2 : ∀ n, (convert 22 9 (.slice (some ⟨b, off + k, none⟩) 1 (cap0 - k))).run Try.prog (w6.drewN n) = .ok (.string ⟨#[l[k]]⟩) (w6.drewN n) := fun n => bs_string (hone.below (below_drawn _ w6 n))
      have hsl : ∀ w, (Instr.slice 22 (.slice (some ⟨b, off, none⟩) l.length cap0) (some (.int .i64 (k : Int))) (some (.int .i64 ((k : Int) + 1))) none).run Try.prog w = .ok (.slice (some ⟨b, off + k, none⟩) 1 (cap0 - k)) w := sub_one b off l.length cap0 k (by omega) (by omega)
      have hwk : IntKind.i64.wrap ((k : Int) + 1) = (k : Int) + 1 := IntWalk.i64_in _ (by omega)
      generalize l[k] = x at *
      clear hs4 hs5 hs6 hs3 hone hc
      go_wp2
      go_quiet (fail)
      go_wp2
      go_ret
      exact ⟨rfl, hBW6.trans ((below_drawn w6.heap.size w6 nq).mono hBW6.size)⟩
  · have h3 : 300 < len0 := by omega
    clear w0 h1
    go_enter Try.func7, Try.ntmps7
    go_wp2_with fail
    refine (awake_any _).mono ?_
    rintro e w1 ⟨rfl, hb1⟩
    go_wp2
    go_ret
    exact ⟨rfl, hb1⟩
end Go.Proofs.Ythfjlihfgmmomaa
