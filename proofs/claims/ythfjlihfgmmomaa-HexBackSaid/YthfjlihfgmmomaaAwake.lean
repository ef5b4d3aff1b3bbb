/- What stands at the head of each statement: calls whose answers are known. -/
import Derived.Test.YthfjlihfgmmomaaRef
namespace Go.Proofs.Ythfjlihfgmmomaa
open Go Go.RowKit

theorem bs_alloc (w : World) (l : List UInt8) (t : TypeId) (hl : l.length ≤ 140737488355328) : Bs (w.alloc (.cells (l.map bv).toArray t)) (.slice (some ⟨w.heap.size, 0, none⟩) l.length l.length) l := by
  refine ⟨_, _, rfl, (fun h => by cases h), hl, fun _ => ⟨w.heap.size, 0, rfl, by simp, fun j hj => ?_⟩⟩
  rw [World.cell?_alloc_at _ _ _ _ rfl]
  simp [hj, bv]
theorem own_bs {w : World} {B : Nat} {e : TypeId} {v : Value} {l : List UInt8} (h : w.ownsRow B e 1 v l.length (l.map bv)) (hl : l.length ≤ 140737488355328) : Bs w v l := by
  rcases h.2 with ⟨rfl, h0⟩ | ⟨g, cap, cur, rfl, hg, hh, r⟩
  · have : l = [] := List.eq_nil_of_length_eq_zero h0
    subst this
    exact ⟨none, 0, rfl, fun _ => rfl, by simp, fun h => absurd rfl h⟩
  · refine ⟨_, _, rfl, (fun h => by cases h), hl, fun _ => ⟨g, 0, rfl, (Array.getElem?_eq_some_iff.1 hh).1, fun j hj => ?_⟩⟩
    have hc := h.cells (g := g) rfl j (bv (l[j])) (by simp [hj])
    have ha : (⟨g, 0, none⟩ : Addr).add j = ⟨g, 0 + j, none⟩ := by unfold Addr.add; split <;> simp_all
    rw [ha] at hc
    rw [hc, List.getElem?_eq_getElem hj]; rfl
/-- string(v) of a slice that reads as bytes. -/
theorem bs_string {w : World} {v : Value} {l : List UInt8} (h : Bs w v l) : (convert 22 9 v).run Try.prog w = .ok (.string ⟨l.toArray⟩) w := by
  obtain ⟨a, cap, rfl, _, _, hc⟩ := h
  by_cases hl : l = []
  · subst hl
    cases a with
    | none => exact run_convert_bytes_nil w 22 5 Try.underlying22 Try.underlying5 0 cap 9 Try.underlying9
    | some a =>
      have := run_bytesToString (P := Try.prog) w a 0 cap [] (run_loadCells_list w a [] (by simp))
      rw [run_convert_bytes_string w _ _ _ _ _ _ Try.underlying22 Try.underlying5 Try.underlying9]
      exact this
  · obtain ⟨b, off, rfl, _, hcell⟩ := hc hl
    have h := run_convert_bytes_arg (P := Try.prog) w 22 5 Try.underlying22 Try.underlying5 b off l.length cap (l.map fun x => (x.toNat : Int)) (by simp) (fun i hi => by rw [hcell i hi]; simp [hi]) 9 Try.underlying9
    rw [h]
    congr 2
    simp [strOfNums]
    apply List.ext_getElem <;> simp

theorem scan_one : scan (-1) [48, 49, 32, 97, 66, 95, 102, 102] = some [1, 171, 255] := by decide +kernel
theorem scan_two : scan (-1) [48, 32, 49] = none := by decide +kernel
theorem dig_B (w : World) : Calls Try.prog 13 #[.int .i32 66] w fun e w' => e = .returned (.tuple #[.int .i64 11, .bool true]) ∧ Below w.heap.size w w' := digit_any 66 w
theorem dig_g (w : World) : Calls Try.prog 13 #[.int .i32 103] w fun e w' => e = .returned (.tuple #[.int .i64 0, .bool false]) ∧ Below w.heap.size w w' := digit_any 103 w

set_option maxHeartbeats 1000000 in
set_option maxRecDepth 100000 in
theorem awake_any (w : World) :
    Calls Try.prog 10 #[] w fun e w' => e = .returned (.bool true) ∧ Below w.heap.size w w' := by
  go_enter Try.func10, Try.ntmps10
  go_wp2_with fail
  refine (bytes_any _ _ (by simp [ByteArray.size])).mono ?_
  rintro e w1 ⟨hr, hb1⟩
  rw [show scan (-1) (ByteArray.mk #[48, 49, 32, 97, 66, 95, 102, 102]).data.toList = some [1, 171, 255] from scan_one] at hr
  rcases hr with ⟨out, v, ho, rfl, hown⟩ | ⟨h, _⟩
  rotate_left
  · cases h
  obtain rfl := Option.some.inj ho
  clear ho
  go_wp2_with fail
  refine (bytes_any _ _ (by simp [ByteArray.size])).mono ?_
  rintro e w2 ⟨hr, hb2⟩
  rw [show scan (-1) (ByteArray.mk #[48, 32, 49]).data.toList = none from scan_two] at hr
  rcases hr with ⟨out, v, ho, _⟩ | ⟨_, rfl⟩
  · cases ho
  go_wp2_with fail
  refine (dig_B _).mono ?_
  rintro e w3 ⟨rfl, hb3⟩
  go_wp2_with fail
  refine (dig_g _).mono ?_
  rintro e w4 ⟨rfl, hb4⟩
  have hs1 := hb1.size
  have hs2 := hb2.size
  have hs3 := hb3.size
  have hs4 := hb4.size
  have hB4 : Below w.heap.size w w4 := ((hb1.trans (hb2.mono (by omega))).trans (hb3.mono (by omega))).trans (hb4.mono (by omega))
  have hs : Bs w4 v [1, 171, 255] := (((own_bs hown (by simp)).below hb2).below hb3).below hb4
  clear hown
  go_wp2_with fail
  refine (text_any _ [1, 171] _ (bs_alloc w4 [1, 171] 5 (by simp)) (by simp)).mono ?_
  rintro e w5 ⟨rfl, hb5⟩
  rw [show hexOf [1, 171] = [48, 49, 97, 98] by decide +kernel]
  have hB5 : Below w.heap.size w w5 := (hB4.alloc (by omega) _).trans (hb5.mono (by simp; omega))
  have hs5 : Bs w5 v [1, 171, 255] := (hs.below ((Below.refl _ w4).alloc (Nat.le_refl _) _)).below hb5
  have hc1 : (convert 22 9 v).run Try.prog w5 = .ok (.string ⟨#[1, 171, 255]⟩) w5 := bs_string hs5
  have hc2 : (convert 22 9 (.slice (some ⟨w5.heap.size, 0, none⟩) 3 3)).run Try.prog (w5.alloc (.cells #[.int .u8 1, .int .u8 171, .int .u8 255] 5)) = .ok (.string ⟨#[1, 171, 255]⟩) (w5.alloc (.cells #[.int .u8 1, .int .u8 171, .int .u8 255] 5)) := bs_string (bs_alloc w5 [1, 171, 255] 5 (by simp))
  clear hs hs5 hs1 hs2 hs3 hs4
  go_wp2
  go_ret
  exact ⟨rfl, hB5.alloc hB5.size _⟩
end Go.Proofs.Ythfjlihfgmmomaa
