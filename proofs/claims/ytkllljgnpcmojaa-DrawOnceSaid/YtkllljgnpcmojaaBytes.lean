/- hex.Bytes: the bytes that a text is. -/
import Derived.Test.YtkllljgnpcmojaaDigit
import Derived.Test.YtkllljgnpcmojaaScan
import Derived.Maps.AppendAt
namespace Go.Proofs.Ytkllljgnpcmojaa
open Go Go.RowKit

theorem info5 : (Try.prog.info? 5).map (fun i => (i.zero, i.size, i.bytes)) = some (some (.int .u8 0), 1, 1) := by kernel_rfl
theorem owns_below {w w' : World} {B n sz : Nat} {e : TypeId} {v : Value} {xs : List Value} (h : w.ownsRow B e sz v n xs) (hb : Below w.heap.size w w') : w'.ownsRow B e sz v n xs :=
  h.kept (row := none) ⟨hb.os, hb.tape, hb.output, hb.size, fun k hk _ => hb.block k hk⟩ (by cases v.ownBlock <;> simp)
theorem owns_iterAt {w : World} {B n sz : Nat} {e : TypeId} {v : Value} {xs : List Value} (h : w.ownsRow B e sz v n xs) (k : Nat) (hk : k < B) (s : ByteArray) (p : Nat) : (w.iterAt k s p).ownsRow B e sz v n xs := by
  obtain ⟨h1, h2⟩ := h
  refine ⟨h1, ?_⟩
  rcases h2 with h2 | ⟨g, cap, cur, hv, hg, hh, r⟩
  · exact Or.inl h2
  · exact Or.inr ⟨g, cap, cur, hv, hg, by rw [Lib.iterAt_other _ _ _ _ _ (by omega)]; exact hh, r⟩
theorem owns_base {w : World} {B B' n sz : Nat} {e : TypeId} {v : Value} {xs : List Value} (h : w.ownsRow B e sz v n xs) (hB : B' ≤ B) : w.ownsRow B' e sz v n xs := by
  obtain ⟨h1, h2⟩ := h
  refine ⟨h1, ?_⟩
  rcases h2 with h2 | ⟨g, cap, cur, hv, hg, r⟩
  · exact Or.inl h2
  · exact Or.inr ⟨g, cap, cur, hv, Nat.le_trans hB hg, r⟩
theorem keeps_block {w w' : World} {B n sz k : Nat} {e : TypeId} {v : Value} {xs : List Value} {o : Obj} (h : w.ownsRow B e sz v n xs) (hg : (w.alloc o).grownBy w' v.ownBlock) (hk : k < B) (hs : k < w.heap.size) : w'.heap[k]? = w.heap[k]? := by
  rw [hg.block k (by simp; omega) (fun e => by have := (h.lt k e.symm).1; omega)]
  exact Below.heap_alloc w o k hs
theorem half_nat : ∀ h n : Fin 16, bits BinOp.or IntKind.i64 ((h.val : Int) * 16) (n.val : Int) % 256 = ((UInt8.ofNat (16 * h.val + n.val)).toNat : Int) := by decide +kernel
theorem half_byte (h n : Int) (h0 : 0 ≤ h) (h1 : h < 16) (n0 : 0 ≤ n) (n1 : n < 16) : Value.int IntKind.u8 (bits BinOp.or IntKind.i64 (h * 16) n % 256) = .int .u8 ((UInt8.ofNat (16 * h + n).toNat).toNat) := by
  obtain ⟨a, rfl⟩ := Int.eq_ofNat_of_zero_le h0
  obtain ⟨b, rfl⟩ := Int.eq_ofNat_of_zero_le n0
  have e : (16 * (a : Int) + (b : Int)).toNat = 16 * a + b := by omega
  rw [e]
  exact congrArg _ (half_nat ⟨a, by omega⟩ ⟨b, by omega⟩)
/-- A byte as a value. -/
def bv (b : UInt8) : Value := .int .u8 b.toNat

/-- What hands back the bytes that a text is, or its error. -/
def Reads (w : World) (o : Option (List UInt8)) (e : Ending) (w' : World) : Prop :=
  (∃ out v, o = some out ∧ e = .returned (.tuple #[v, .int .i64 0]) ∧ w'.ownsRow w.heap.size 5 1 v out.length (out.map bv)) ∨ (o = none ∧ e = .returned (.tuple #[.slice none 0 0, .int .i64 20]))

set_option maxHeartbeats 400000 in
set_option maxRecDepth 100000 in
theorem bytes_any (s : ByteArray) (w : World) (hs : s.size ≤ 35184372088832) :
    Calls Try.prog 22 #[.string s] w fun e w' => Reads w (scan (-1) s.data.toList) e w' ∧ Below w.heap.size w w' := by
  go_enter Try.func22, Try.ntmps22
  go_wp2
  obtain ⟨i0, hi, hz0, hz1, hz2⟩ := info_parts info5
  go_loopw [2, 4, 6, 7, 8] (fun v hf c n is wr => ∃ (pos : Nat) (h : Int) (acc : List UInt8), hf = .int .i64 h ∧ -1 ≤ h ∧ h < 16 ∧ pos ≤ s.size ∧ acc.length ≤ pos ∧ wr.heap[w.heap.size]? = some (.stringIter s pos) ∧
      wr.ownsRow (w.heap.size + 1) 5 1 v acc.length (acc.map bv) ∧ Below w.heap.size w wr ∧ comes acc h (s.data.toList.drop pos) = scan (-1) s.data.toList) (fun _ _ _ _ _ wr => s.size - wr.iterPos w.heap.size)
  case atStart =>
    refine ⟨0, -1, [], rfl, by omega, by omega, by omega, by simp, World.iter_heap w s 0, World.ownsRow_nil _ _ _ _, (Below.refl _ w).alloc (Nat.le_refl _) _, ?_⟩
    simp [comes]
  case round =>
    obtain ⟨pos, h, acc, rfl, hh0, hh1, hpos, hacc, hit, hown, hbw, hcm⟩ := hrel
    have hsz : w.heap.size < wr.heap.size := (Array.getElem?_eq_some_iff.1 hit).1
    by_cases hp : pos < s.size
    · have hl : pos < s.data.toList.length := by simpa using hp
      have hdrop : s.data.toList.drop pos = s.data.toList[pos] :: s.data.toList.drop (pos + 1) := List.drop_eq_getElem_cons hl
      have hsb : s.data.toList[pos] = s[pos] := rfl
      have hnx : ∀ ty, (Instr.next (.pointer (some ⟨w.heap.size, 0, none⟩)) true ty).run Try.prog wr = _ := fun ty => Lib.run_next_any_at wr w.heap.size s pos ty hit hp
      have hkey : (Utf8.decode s pos = (s[pos].toNat, 1)) ∨ (128 ≤ s[pos].toNat ∧ 128 ≤ (Utf8.decode s pos).1) := by
        by_cases h8 : s[pos].toNat < 128
        · exact Or.inl (decode_ascii s pos hp h8)
        · exact Or.inr ⟨by omega, (decode_high s pos hp (by omega)).1⟩
      generalize hx : s[pos] = x at *
      rw [hdrop, hsb] at hcm
      clear hdrop hsb hl hx
      obtain ⟨c, wd, hdec⟩ : ∃ c wd, Utf8.decode s pos = (c, wd) := ⟨_, _, rfl⟩
      rw [hdec] at hnx hkey
      dsimp only at hnx hkey
      clear hdec
      have hci : isd (c : Int) = isd (x.toNat : Int) ∧ skp (c : Int) = skp (x.toNat : Int) ∧ ((isd (c : Int) = true ∨ skp (c : Int) = true) → wd = 1 ∧ c = x.toNat) := by
        rcases hkey with hk | ⟨hk1, hk2⟩
        · simp only [Prod.mk.injEq] at hk
          obtain ⟨rfl, rfl⟩ := hk
          exact ⟨rfl, rfl, fun _ => ⟨rfl, rfl⟩⟩
        · have e1 : isd (c : Int) = false := by simp [isd]; omega
          have e2 : isd (x.toNat : Int) = false := by simp [isd]; omega
          have e3 : skp (c : Int) = false := by simp [skp]; omega
          have e4 : skp (x.toNat : Int) = false := by simp [skp]; omega
          exact ⟨by rw [e1, e2], by rw [e3, e4], fun h => by rw [e1, e3] at h; simp at h⟩
      clear hkey
      obtain ⟨hi1, hs1, hw1⟩ := hci
      have hsz3 : wr.heap.size = (wr.iterAt w.heap.size s (pos + wd)).heap.size := (Lib.iterAt_size _ _ _ _).symm
      have hbw2 := Lib.below_iterAt hbw (k := w.heap.size) (by omega) s (pos + wd)
      have hit2 := Lib.iterAt_heap wr w.heap.size s pos (pos + wd) hit
      have hown2 := owns_iterAt hown w.heap.size (by omega) s (pos + wd)
      have hsz2 : w.heap.size < (wr.iterAt w.heap.size s (pos + wd)).heap.size := by omega
      have HM : Hid (wr.iterPos w.heap.size = pos) := by show _ = _; simp only [World.iterPos, hit]
      clear hit hbw hown hsz hsz3
      generalize wr.iterAt w.heap.size s (pos + wd) = w2 at *
      have Hd := Lib.hid (digit_any (c : Int) w2)
      cases his : isd (c : Int) with
      | true =>
        obtain ⟨rfl, rfl⟩ := hw1 (Or.inl his)

        have hv0 := hv_nonneg (x.toNat : Int)
        have hv1 := hv_lt (x.toNat : Int)
        have His := Lib.hid his

        clear his hi1 hs1 hw1
        by_cases hh : 0 ≤ h
        · have HC : Hid (comes (acc ++ [UInt8.ofNat (16 * h + hv (x.toNat : Int)).toNat]) (-1) (s.data.toList.drop (pos + 1)) = scan (-1) s.data.toList) := by
            show _ = _
            rw [← hcm]
            unfold comes
            rw [scan_whole His.out hh, Option.map_map]
            congr 1
            funext r
            simp
          clear hcm hh0
          generalize hv (x.toNat : Int) = n at *
          go_wp2_with fail
          refine (Hd.out).mono ?_
          rintro e w3 ⟨rfl, hb3⟩
          rw [His.out]
          have hown3 := owns_below hown2 hb3
          have hsz3 := hb3.size
          go_wp2_with (at_builtin; refine wpList_append_own _ rfl _ _ 41 rfl (w.heap.size + 1) 5 i0 (.int .u8 0) 1 1 Try.underlying41 hi hz0 hz1 hz2 rfl (by decide) _ _ _ rfl (hown3.alloc _) ⟨w3.heap.size, 0, none⟩ 1 1 [_] rfl rfl (cell_one_new _ _ _) ?c2 ?c3 ?c4 ?c5 ?_)
          case c2 => intro u hu; simp at hu; subst hu; rfl
          case c3 => unfold maxLen; omega
          case c4 => omega
          case c5 => simp; omega
          intro v' w4 hown' hgrow _
          have hb4 : Below w.heap.size w w4 := by
            refine (hbw2.trans (hb3.mono (by omega))).trans ?_
            refine ((Below.refl _ w3).alloc (by omega) _).grown hgrow (by simp; omega) (fun k hk => ?_)
            have := (hown3.lt k hk).1
            omega
          have hit4 : w4.heap[w.heap.size]? = some (.stringIter s (pos + 1)) := by
            rw [keeps_block hown3 hgrow (by omega) (by omega), hb3.block _ hsz2]
            exact hit2
          rw [half_byte h n hh hh1 hv0 hv1] at hown'
          have HO := Lib.hid hown'
          have Hit := Lib.hid hit4
          clear hown' hgrow hit4 hown3 hit2 hown2 hnx
          go_wp2
          go_roundw
          case rel =>
            refine ⟨pos + 1, -1, acc ++ [UInt8.ofNat (16 * h + n).toNat], rfl, by omega, by omega, by omega, by simp; omega, Hit.out, ?_, hb4, HC.out⟩
            have := HO.out
            simpa [bv] using this
          case measure => simp only [World.iterPos, Hit.out]; have := HM.out; simp only [World.iterPos] at this; omega
        · have hneg : h < 0 := by omega
          obtain rfl : h = -1 := by omega
          have HC : Hid (comes acc (hv (x.toNat : Int)) (s.data.toList.drop (pos + 1)) = scan (-1) s.data.toList) := by
            show _ = _
            rw [← hcm]
            unfold comes
            rw [scan_half His.out hneg]
          clear hcm hh0
          generalize hv (x.toNat : Int) = n at *
          go_wp2_with fail
          refine (Hd.out).mono ?_
          rintro e w3 ⟨rfl, hb3⟩
          rw [His.out]
          have hown3 := owns_below hown2 hb3
          have hsz3 := hb3.size
          have Hit : Hid (w3.heap[w.heap.size]? = some (.stringIter s (pos + 1))) := (hb3.block _ hsz2).trans hit2
          have hb4 := hbw2.trans (hb3.mono (show w.heap.size ≤ w2.heap.size by omega))
          clear hit2 hnx hown2
          go_wp2
          go_roundw
          case rel => exact ⟨pos + 1, n, acc, rfl, by omega, by omega, by omega, by omega, Hit.out, hown3, hb4, HC.out⟩
          case measure => simp only [World.iterPos, Hit.out]; have := HM.out; simp only [World.iterPos] at this; omega
      | false =>
        have hi1' : isd (x.toNat : Int) = false := by rw [← hi1, his]
        by_cases hstop : 0 ≤ h ∨ skp (x.toNat : Int) = false
        · have HC : Hid (scan (-1) s.data.toList = none) := by
            show _ = _
            rw [← hcm]
            unfold comes
            rw [scan_stray hi1' hstop]
            rfl
          have His := Lib.hid his
          have hstop' : 0 ≤ h ∨ (h < 0 ∧ ((c : Int) != 32) = true ∧ ((c : Int) != 10) = true ∧ ((c : Int) != 95) = true) := by
            rcases hstop with hs | hs
            · exact Or.inl hs
            · rw [← hs1] at hs
              simp [skp] at hs
              by_cases h9 : 0 ≤ h
              · exact Or.inl h9
              · exact Or.inr ⟨by omega, by simp; omega, by simp; omega, by simp; omega⟩
          clear hcm his hi1 hi1' hs1 hw1 hstop
          rcases hstop' with hh | ⟨hh, g1, g2, g3⟩
          all_goals
            go_wp2_with fail
            refine (Hd.out).mono ?_
            rintro e w3 ⟨rfl, hb3⟩
            rw [His.out]
            have hb4 := hbw2.trans (hb3.mono (show w.heap.size ≤ w2.heap.size by omega))
            go_wp2
            go_ret2
            exact ⟨Or.inr ⟨HC.out, rfl⟩, hb4⟩
        · have hneg : h < 0 := by omega
          obtain rfl : h = -1 := by omega
          have hsk : skp (x.toNat : Int) = true := by
            cases hq : skp (x.toNat : Int) with
            | true => rfl
            | false => exact absurd (Or.inr hq) hstop
          have HC : Hid (comes acc (-1) (s.data.toList.drop (pos + 1)) = scan (-1) s.data.toList) := by
            show _ = _
            rw [← hcm]
            unfold comes
            rw [scan_skip hi1' hneg hsk]
          have hsc : skp (c : Int) = true := by rw [hs1]; exact hsk
          obtain ⟨rfl, rfl⟩ := hw1 (Or.inr hsc)
          have His := Lib.hid his
          have hsk' : (x.toNat : Int) = 32 ∨ (x.toNat : Int) = 10 ∨ (x.toNat : Int) = 95 := by simpa [skp] using hsk
          have Hd' : Hid (Calls Try.prog 34 #[.int .i32 (x.toNat : Int)] w2 fun e w' => e = .returned (.tuple #[.int .i64 (hv (x.toNat : Int)), .bool false]) ∧ Below w2.heap.size w2 w') := by
            refine (Hd.out).mono ?_
            rintro e w' ⟨rfl, hb⟩
            rw [His.out]
            exact ⟨rfl, hb⟩
          clear hcm his hi1 hi1' hs1 hw1 hstop hsk hsc Hd His
          generalize hv (x.toNat : Int) = n at *
          generalize (x.toNat : Int) = xi at *
          rcases hsk' with rfl | rfl | rfl
          all_goals
            go_wp2_with fail
            refine (Hd'.out).mono ?_
            rintro e w3 ⟨rfl, hb3⟩
            have hown3 := owns_below hown2 hb3
            have hsz3 := hb3.size
            have Hit : Hid (w3.heap[w.heap.size]? = some (.stringIter s (pos + 1))) := (hb3.block _ hsz2).trans hit2
            have hb4 := hbw2.trans (hb3.mono (show w.heap.size ≤ w2.heap.size by omega))
            clear hit2 hnx hown2
            go_wp2
            go_roundw
            case rel => exact ⟨pos + 1, -1, acc, rfl, by omega, by omega, by omega, by omega, Hit.out, hown3, hb4, HC.out⟩
            case measure => simp only [World.iterPos, Hit.out]; have := HM.out; simp only [World.iterPos] at this; omega
    · have hnx : ∀ ty, (Instr.next (.pointer (some ⟨w.heap.size, 0, none⟩)) true ty).run Try.prog wr = _ := fun ty => Lib.run_next_end_at wr w.heap.size s pos ty hit hp
      have hd0 : s.data.toList.drop pos = [] := List.drop_of_length_le (by simp; exact Nat.le_of_not_lt hp)
      rw [hd0] at hcm
      unfold comes at hcm
      rw [scan_nil] at hcm
      by_cases hh : h < 0
      · rw [if_pos hh] at hcm
        have HC : Hid (scan (-1) s.data.toList = some acc) := by show _ = _; rw [← hcm]; simp
        clear hcm hd0
        go_wp2
        go_ret2
        exact ⟨Or.inl ⟨acc, _, HC.out, rfl, owns_base hown (by omega)⟩, hbw⟩
      · rw [if_neg hh] at hcm
        have HC : Hid (scan (-1) s.data.toList = none) := by show _ = _; rw [← hcm]; simp
        clear hcm hd0
        have hh' : 0 ≤ h := by omega
        go_wp2
        go_ret2
        exact ⟨Or.inr ⟨HC.out, rfl⟩, hbw⟩
end Go.Proofs.Ytkllljgnpcmojaa
