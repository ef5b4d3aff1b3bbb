/- quicklimelaw10.Small, of a device that came in. -/
import Derived.Test.YtdiokmaomglefaaLRaw
import Derived.Test.YtdiokmaomglefaaLPlace
namespace Go.Proofs.Ytdiokmaomglefaa
open Go Go.RowKit

set_option linter.unusedSimpArgs false in
set_option linter.unusedVariables false in
set_option maxRecDepth 100000 in
set_option maxHeartbeats 4000000 in
theorem small_any {w : World} {cs : List Value} {size : Int} {az : Option Addr} {cz : Nat} {zs : List RawZ} {r0 r1 f0 f1 : Value} {n0 n1 m0 m1 : Nat} {down : Bool} {left fault done : Int} (h : RawD w cs size az cz zs r0 r1 f0 f1 n0 n1 m0 m1 down left fault done) :
    Calls Try.prog 14 #[.agg cs.toArray] w fun e w' => (∃ b, e = .returned (.bool b) ∧ (b = true → zs.length ≤ 70 ∧ (∀ z ∈ zs, z.n ≤ 300) ∧ n0 ≤ 200 ∧ n1 ≤ 200 ∧ m0 ≤ 200 ∧ m1 ≤ 200)) ∧ Below w.heap.size w w' := by
  obtain ⟨rfl, q0, q1, q2, q3, hcap, hle, hmax, hblk, hrow⟩ := h
  obtain ⟨a0, k0, rfl, p0, _⟩ := q0
  obtain ⟨a1, k1, rfl, p1, _⟩ := q1
  obtain ⟨a2, k2, rfl, p2, _⟩ := q2
  obtain ⟨a3, k3, rfl, p3, _⟩ := q3
  unfold maxLen at hmax
  have hnz : zs.length ≤ 9223372036854775807 := by omega
  have HBL := Lib.hid hblk
  have HRO := Lib.hid hrow
  clear hcap hle hmax hblk hrow p0 p1 p2 p3
  go_enter Try.func14, Try.ntmps14
  by_cases h70 : 70 < zs.length
  · have d1 : decide ((70 : Int) < (zs.length : Int)) = true := decide_eq_true (by omega)
    go_wp2
    refine bodyPost_ret (results_tmp rfl _ _ _) rfl ?_
    exact ⟨⟨false, rfl, fun h => by cases h⟩, (Below.refl _ w).alloc (Nat.le_refl _) _⟩
  · have d1 : decide ((70 : Int) < (zs.length : Int)) = false := decide_eq_false (by omega)
    go_wp2
    refine code_world (fun w1 e1 => ?_)
    obtain ⟨g1, hb1, hs1⟩ := one_alloc e1
    have HB1 := Lib.hid hb1
    have G1 := Lib.hid g1
    have HL1 := Lib.hid (block_lt g1)
    clear e1 g1 hb1 hs1 d1
    go_loopw [3] (fun i wr => ∃ j : Nat, j ≤ zs.length ∧ i = .int .i64 j ∧ Below w1.heap.size w1 wr ∧ Hid (∀ (t : Nat) (z : RawZ), t < j → zs[t]? = some z → z.n ≤ 300)) (fun i _ => zs.length - (intOf i).toNat)
    case atStart => exact ⟨0, by omega, rfl, Below.refl _ _, Lib.hid (fun t z ht => by omega)⟩
    case round =>
      obtain ⟨j, hj, rfl, hbr, HAL⟩ := hrel
      have hgr := blk_on G1.out hbr
      have c1 : wr.cell? ⟨w.heap.size, 1, none⟩ = some (.slice az zs.length cz) := (cell_of_block hgr 1).trans rfl
      have HGR := Lib.hid hgr
      have HBW := Lib.hid (HB1.out.trans (hbr.mono HB1.out.size))
      have HBR := Lib.hid hbr
      clear hgr hbr
      by_cases hlt : j < zs.length
      · have hjz : zs[j]? = some zs[j] := List.getElem?_eq_getElem hlt
        obtain ⟨b, off, rfl, hbl⟩ := HBL.out (by rintro rfl; simp at hlt)
        obtain ⟨hrb, hra⟩ := HRO.out b off rfl j zs[j] hjz
        generalize zs[j] = z at hjz hrb hra
        obtain ⟨a, k, hv, _, _⟩ := hrb
        have hc : wr.cell? ⟨b, off + j * 3 + 1, none⟩ = some (.slice a z.n k) := by
          rw [← hv]
          exact ((HBW.out).cell (p := ⟨b, off + j * 3 + 1, none⟩) hbl).trans (hra 1 _ rfl)
        have HJZ := Lib.hid hjz
        have i1 : (0 : Int) ≤ (j : Int) := by omega
        have i2 : (j : Int) < (zs.length : Int) := by omega
        have e1 : IntKind.i64.wrap ((j : Int) + 1) = (j : Int) + 1 := IntWalk.i64_in _ (by omega)
        clear hra hjz hv hbl
        by_cases h300 : 300 < z.n
        · have d3 : decide ((300 : Int) < (z.n : Int)) = true := decide_eq_true (by omega)
          go_wp2
          refine bodyPost_ret (results_tmp rfl _ _ _) rfl ?_
          exact ⟨⟨false, rfl, fun h => by cases h⟩, HBW.out⟩
        · have d3 : decide ((300 : Int) < (z.n : Int)) = false := decide_eq_false (by omega)
          go_wp2
          refine ⟨⟨j + 1, by omega, rfl, HBR.out, Lib.hid (fun t y ht hy => ?_)⟩, ?_⟩
          · rcases Nat.lt_or_ge t j with h | h
            · exact HAL.out t y h hy
            · obtain rfl : t = j := by omega
              rw [HJZ.out] at hy
              cases hy
              omega
          · show zs.length - ((j : Int) + 1).toNat < zs.length - (j : Int).toNat
            omega
      · have hje : j = zs.length := by omega
        subst hje
        have hn2 : decide ((zs.length : Int) < (zs.length : Int)) = false := decide_eq_false (by omega)
        have c2 : wr.cell? ⟨w.heap.size, 2, none⟩ = some (.slice a0 n0 k0) := (cell_of_block HGR.out 2).trans rfl
        have c3 : wr.cell? ⟨w.heap.size, 3, none⟩ = some (.slice a1 n1 k1) := (cell_of_block HGR.out 3).trans rfl
        have c4 : wr.cell? ⟨w.heap.size, 4, none⟩ = some (.slice a2 m0 k2) := (cell_of_block HGR.out 4).trans rfl
        have c5 : wr.cell? ⟨w.heap.size, 5, none⟩ = some (.slice a3 m1 k3) := (cell_of_block HGR.out 5).trans rfl
        by_cases h0 : n0 ≤ 200
        rotate_left
        · have e0 : decide ((n0 : Int) ≤ (200 : Int)) = false := decide_eq_false (by omega)
          go_wp2
          refine bodyPost_ret (results_tmp rfl _ _ _) rfl ?_
          exact ⟨⟨false, rfl, fun h => by cases h⟩, HBW.out⟩
        have e0 : decide ((n0 : Int) ≤ (200 : Int)) = true := decide_eq_true (by omega)
        by_cases h1 : n1 ≤ 200
        rotate_left
        · have e1 : decide ((n1 : Int) ≤ (200 : Int)) = false := decide_eq_false (by omega)
          go_wp2
          refine bodyPost_ret (results_tmp rfl _ _ _) rfl ?_
          exact ⟨⟨false, rfl, fun h => by cases h⟩, HBW.out⟩
        have e1 : decide ((n1 : Int) ≤ (200 : Int)) = true := decide_eq_true (by omega)
        by_cases h2 : m0 ≤ 200
        rotate_left
        · have e2 : decide ((m0 : Int) ≤ (200 : Int)) = false := decide_eq_false (by omega)
          go_wp2
          refine bodyPost_ret (results_tmp rfl _ _ _) rfl ?_
          exact ⟨⟨false, rfl, fun h => by cases h⟩, HBW.out⟩
        have e2 : decide ((m0 : Int) ≤ (200 : Int)) = true := decide_eq_true (by omega)
        by_cases h3 : m1 ≤ 200
        rotate_left
        · have e3 : decide ((m1 : Int) ≤ (200 : Int)) = false := decide_eq_false (by omega)
          go_wp2
          refine bodyPost_ret (results_tmp rfl _ _ _) rfl ?_
          exact ⟨⟨false, rfl, fun h => by cases h⟩, HBW.out⟩
        have e3 : decide ((m1 : Int) ≤ (200 : Int)) = true := decide_eq_true (by omega)
        go_wp2
        refine bodyPost_ret (results_tmp rfl _ _ _) rfl ?_
        refine ⟨⟨true, rfl, fun _ => ⟨by omega, fun z hz => ?_, h0, h1, h2, h3⟩⟩, HBW.out⟩
        obtain ⟨t, ht⟩ := List.getElem?_of_mem hz
        exact HAL.out t z (List.getElem?_eq_some_iff.1 ht).1 ht
end Go.Proofs.Ytdiokmaomglefaa
