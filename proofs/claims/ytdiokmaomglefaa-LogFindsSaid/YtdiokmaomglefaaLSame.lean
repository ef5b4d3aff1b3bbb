/- Two devices that are one: quicklimeref10.Same. -/
import Derived.Test.YtdiokmaomglefaaMD
import Derived.Test.YtdiokmaomglefaaGPolySum
import Derived.Test.YtdiokmaomglefaaLPlace
import Derived.BigQuiet
import Derived.Laws.BytesString
namespace Go.Proofs.Ytdiokmaomglefaa
open Go Go.RowKit

set_option maxRecDepth 100000 in
/-- string(v) of a slice that reads as bytes. -/
theorem bt_string {w : World} {v : Value} {l : List UInt8} (h : Bt w v l) : (convert 24 9 v).run Try.prog w = .ok (.string ⟨l.toArray⟩) w := by
  obtain ⟨a, cap, rfl, h0, _, _, _, hc⟩ := h
  by_cases hl : l = []
  · subst hl
    cases a with
    | none => exact run_convert_bytes_nil w 24 5 Try.underlying24 Try.underlying5 0 cap 9 Try.underlying9
    | some a =>
      have := run_bytesToString (P := Try.prog) w a 0 cap [] (run_loadCells_list w a [] (by simp))
      rw [run_convert_bytes_string w _ _ _ _ _ _ Try.underlying24 Try.underlying5 Try.underlying9]
      exact this
  · obtain ⟨b, off, rfl, _, hcell⟩ := hc hl
    have h := run_convert_bytes_arg (P := Try.prog) w 24 5 Try.underlying24 Try.underlying5 b off l.length cap (l.map fun x => (x.toNat : Int)) (by simp) (fun i hi => by rw [hcell i hi]; simp [bv, hi]) 9 Try.underlying9
    rw [h]
    congr 2
    simp [strOfNums]
    apply List.ext_getElem <;> simp
set_option linter.unusedSimpArgs false in
set_option maxRecDepth 100000 in
set_option maxHeartbeats 2000000 in
theorem zsame_refl (st la : Int) (v : Value) (l : List UInt8) (w : World) (h : Bt w v l) :
    Calls Try.prog 26 #[.agg #[.int .i64 st, v, .int .i64 la], .agg #[.int .i64 st, v, .int .i64 la]] w fun e w' => e = .returned (.bool true) ∧ Below w.heap.size w w' := by
  obtain ⟨a, c, rfl⟩ := h.open
  have X := two_alloc (w := w) (o1 := .cells #[.int .i64 st, .slice a l.length c, .int .i64 la] 52) (o2 := .cells #[.int .i64 st, .slice a l.length c, .int .i64 la] 52) rfl
  have hcv := bt_string (h.below X.2.2.1)
  have HX := Lib.hid X.2.2.1
  have e1 : (st == st) = true := by simp
  have e2 : (la == la) = true := by simp
  clear X h
  go_enter Try.func26, Try.ntmps26
  go_wp2
  go_ret
  exact ⟨rfl, HX.out⟩
set_option linter.unusedSimpArgs false in
set_option maxRecDepth 100000 in
set_option maxHeartbeats 4000000 in
theorem dsame_refl (d : Dv) (cs : List Value) (w : World) (h : DvIs w cs d) :
    Calls Try.prog 11 #[.agg cs.toArray, .agg cs.toArray] w fun e w' => e = .returned (.bool true) ∧ Below w.heap.size w w' := by
  obtain ⟨vz, r0, r1, f0, f1, rfl, hz, h0, h1, h2, h3⟩ := h
  obtain ⟨az, cz, rfl⟩ := hz.open
  obtain ⟨a0, c0, rfl⟩ := h0.open
  obtain ⟨a1, c1, rfl⟩ := h1.open
  obtain ⟨b0, e0, rfl⟩ := h2.open
  obtain ⟨b1, e1, rfl⟩ := h3.open
  obtain ⟨size, zs, lr0, lr1, lf0, lf1, down, left, fault, done⟩ := d
  simp only [dcs] at *
  have hbig := hz.len.2
  have n1 : (size != size) = false := by simp
  have n2 : ((zs.length : Int) != (zs.length : Int)) = false := by simp
  have n3 : (down != down) = false := by simp
  have n4 : (left != left) = false := by simp
  have n5 : (fault != fault) = false := by simp
  have n6 : (done != done) = false := by simp
  have HZ := Lib.hid hz
  have H0 := Lib.hid h0
  have H1 := Lib.hid h1
  have H2 := Lib.hid h2
  have H3 := Lib.hid h3
  clear hz h0 h1 h2 h3
  go_enter Try.func11, Try.ntmps11
  go_wp2
  refine code_world (fun w1 e1 => ?_)
  obtain ⟨g1, g2, hbx, hsx⟩ := two_alloc e1
  have HBX := Lib.hid hbx
  have G1 := Lib.hid g1
  have G2 := Lib.hid g2
  have HLB := Lib.hid (show w.heap.size < w1.heap.size ∧ w.heap.size + 1 < w1.heap.size by omega)
  clear e1 n1 n2 n3 n4 n5 n6 g1 g2 hbx hsx
  go_loopw [5, 6] (fun i _ wr => ∃ j : Nat, j ≤ zs.length ∧ i = .int .i64 j ∧ Below w1.heap.size w1 wr) (fun i _ _ => zs.length - (intOf i).toNat)
  case atStart => exact ⟨0, by omega, rfl, Below.refl _ _⟩
  case round =>
    obtain ⟨j, hj, rfl, hbr⟩ := hrel
    have r1 : wr.cell? ⟨w.heap.size, 1, none⟩ = some (.slice az zs.length cz) := (hbr.cell (p := ⟨w.heap.size, 1, none⟩) HLB.out.1).trans ((cell_of_block G1.out 1).trans rfl)
    by_cases hlt : j < zs.length
    · have hjz : zs[j]? = some zs[j] := List.getElem?_eq_getElem hlt
      obtain ⟨b, off, rfl, hblt, vd, hbt, hr⟩ := ((HZ.out.below HBX.out).below hbr).at j zs[j] hjz
      generalize zs[j] = z at hjz hbt hr
      obtain ⟨a2, c2, rfl⟩ := hbt.open
      have HBT := Lib.hid hbt
      have i1 : (0 : Int) ≤ (j : Int) := by omega
      have i2 : (j : Int) < (zs.length : Int) := by omega
      have hi3 : (Try.prog.info? 52).map (·.size) = some 3 := by kernel_rfl
      have q1 : ∀ wz, Below wr.heap.size wr wz → wz.cell? ⟨w.heap.size, 1, none⟩ = some (.slice (some ⟨b, off, none⟩) zs.length cz) := fun wz hz => (hz.cell (p := ⟨w.heap.size, 1, none⟩) (Nat.lt_of_lt_of_le HLB.out.1 hbr.size)).trans r1
      have q2 : ∀ wz, Below wr.heap.size wr wz → wz.cell? ⟨w.heap.size + 1, 1, none⟩ = some (.slice (some ⟨b, off, none⟩) zs.length cz) := fun wz hz => (hz.cell (p := ⟨w.heap.size + 1, 1, none⟩) (Nat.lt_of_lt_of_le HLB.out.2 hbr.size)).trans ((hbr.cell (p := ⟨w.heap.size + 1, 1, none⟩) HLB.out.2).trans ((cell_of_block G2.out 1).trans rfl))
      clear hjz hbt
      go_wp2
      refine wp_region_noPanic ?_
      refine wp_region_held_drew (S := (fun wz => Below wr.heap.size wr wz)) (by kernel_rfl) ?_ (fun hHeld => ?_)
      · exact below_self_drew _
      refine takeL 0 (v := ?_) rfl (by kernel_rfl) (by kernel_rfl) (by kernel_rfl) (fun _ _ _ h => h) (Or.inl ⟨by rfl, ?_⟩) (by assumption) ?_
      rotate_left
      · (intro w hSw; go_simp; try with_reducible rfl)
      (try simp only [Act.put, List.setIfInBounds_toArray, List.set_cons_zero, List.set_cons_succ])
      refine takeL 1 (v := ?_) rfl (by kernel_rfl) (by kernel_rfl) (by kernel_rfl) (fun _ _ _ h => h) (Or.inl ⟨by rfl, ?_⟩) (by assumption) ?_
      rotate_left
      · (intro w hSw; go_simp; try with_reducible rfl)
      (try simp only [Act.put, List.setIfInBounds_toArray, List.set_cons_zero, List.set_cons_succ])
      refine takeL 2 (v := ?_) rfl (by kernel_rfl) (by kernel_rfl) (by kernel_rfl) (fun _ _ _ h => h) (Or.inl ⟨by rfl, ?_⟩) (by assumption) ?_
      rotate_left
      · (intro w hSw; go_simp; try with_reducible rfl)
      (try simp only [Act.put, List.setIfInBounds_toArray, List.set_cons_zero, List.set_cons_succ])
      refine takeL 3 (v := ?_) rfl (by kernel_rfl) (by kernel_rfl) (by kernel_rfl) (fun _ _ _ h => h) (Or.inl ⟨by rfl, ?_⟩) (by assumption) ?_
      rotate_left
      · (intro w hSw; go_simp; try with_reducible rfl)
      (try simp only [Act.put, List.setIfInBounds_toArray, List.set_cons_zero, List.set_cons_succ])
      refine takeL 4 (v := _) rfl (by kernel_rfl) (by kernel_rfl) (by kernel_rfl) (fun _ _ _ h => h) (yieldsIf_load_mid (by rfl) _ _ rfl _ _ rfl [.int .i64 z.st, .slice a2 z.data.length c2, .int .i64 z.lasts] _ (fun w hSw => (range_below hr hSw hblt)) Try.underlying52 rfl hi3) (by assumption) ?_
      (try simp only [Act.put, List.setIfInBounds_toArray, List.set_cons_zero, List.set_cons_succ])
      refine takeL 5 (v := ?_) rfl (by kernel_rfl) (by kernel_rfl) (by kernel_rfl) (fun _ _ _ h => h) (Or.inl ⟨by rfl, ?_⟩) (by assumption) ?_
      rotate_left
      · (intro w hSw; go_simp; try with_reducible rfl)
      (try simp only [Act.put, List.setIfInBounds_toArray, List.set_cons_zero, List.set_cons_succ])
      refine takeL 6 (v := ?_) rfl (by kernel_rfl) (by kernel_rfl) (by kernel_rfl) (fun _ _ _ h => h) (Or.inl ⟨by rfl, ?_⟩) (by assumption) ?_
      rotate_left
      · (intro w hSw; go_simp; try with_reducible rfl)
      (try simp only [Act.put, List.setIfInBounds_toArray, List.set_cons_zero, List.set_cons_succ])
      refine takeL 7 (v := ?_) rfl (by kernel_rfl) (by kernel_rfl) (by kernel_rfl) (fun _ _ _ h => h) (Or.inl ⟨by rfl, ?_⟩) (by assumption) ?_
      rotate_left
      · (intro w hSw; go_simp; try with_reducible rfl)
      (try simp only [Act.put, List.setIfInBounds_toArray, List.set_cons_zero, List.set_cons_succ])
      refine takeL 8 (v := ?_) rfl (by kernel_rfl) (by kernel_rfl) (by kernel_rfl) (fun _ _ _ h => h) (Or.inl ⟨by rfl, ?_⟩) (by assumption) ?_
      rotate_left
      · (intro w hSw; go_simp; try with_reducible rfl)
      (try simp only [Act.put, List.setIfInBounds_toArray, List.set_cons_zero, List.set_cons_succ])
      refine takeL 9 (v := _) rfl (by kernel_rfl) (by kernel_rfl) (by kernel_rfl) (fun _ _ _ h => h) (yieldsIf_load_mid (by rfl) _ _ rfl _ _ rfl [.int .i64 z.st, .slice a2 z.data.length c2, .int .i64 z.lasts] _ (fun w hSw => (range_below hr hSw hblt)) Try.underlying52 rfl hi3) (by assumption) ?_
      (try simp only [Act.put, List.setIfInBounds_toArray, List.set_cons_zero, List.set_cons_succ])
      refine stepL 10 rfl (by kernel_rfl) (fun K hK => ?_)
      (go_simp; go_at_call 26; refine (zsame_refl z.st z.lasts (.slice a2 z.data.length c2) z.data wr.drew (HBT.out.below (below_self_drew wr))).mono ?_; rintro e wq ⟨rfl, hbq⟩; have HBQ := Lib.hid (hbr.trans (((below_self_drew wr).trans hbq).mono hbr.size)); have HBR2 := Lib.hid ((below_self_drew wr).trans hbq); clear hbq)
      refine hK.out _ _ ?_ (fun hHeld => ?_)
      · exact HBR2.out
      clear hK K
      (try simp only [Act.put, List.setIfInBounds_toArray, List.set_cons_zero, List.set_cons_succ])
      refine takeL 11 (v := ?_) rfl (by kernel_rfl) (by kernel_rfl) (by kernel_rfl) (fun _ _ _ h => h) (Or.inl ⟨by rfl, ?_⟩) (by assumption) ?_
      rotate_left
      · (intro w hSw; go_simp; try with_reducible rfl)
      (try simp only [Act.put, List.setIfInBounds_toArray, List.set_cons_zero, List.set_cons_succ])
      refine wpAnyH_done (by kernel_rfl) ?_ _
      refine NoPanic.normal ?_
      clear hr
      go_wp2
      go_roundw
      case rel => exact ⟨j + 1, by omega, congrArg (Value.int .i64) (by omega), HBQ.out⟩
      case measure =>
        show zs.length - ((j : Int) + 1).toNat < zs.length - (j : Int).toNat
        omega
    · have hje : j = zs.length := by omega
      subst hje
      have hn2 : decide ((zs.length : Int) < (zs.length : Int)) = false := decide_eq_false (by omega)
      have HBR := Lib.hid hbr
      clear hbr hj hlt
      go_wp2
      refine code_world (fun wA eA => ?_)
      have HBA := Lib.hid (show Below w1.heap.size w1 wA by rw [eA]; exact HBR.out)
      clear eA HBR
      go_loopw [7] (fun i wr => ∃ j : Nat, j ≤ 2 ∧ i = .int .i64 j ∧ Below wA.heap.size wA wr) (fun i _ => 2 - (intOf i).toNat)
      case atStart => exact ⟨0, by omega, rfl, Below.refl _ _⟩
      case round =>
        obtain ⟨j, hj, rfl, hbr⟩ := hrel
        have hbw := HBA.out.trans (hbr.mono HBA.out.size)
        have hb0 := HBX.out.trans (hbw.mono HBX.out.size)
        have K1 := Lib.hid (blk_on G1.out hbw)
        have K2 := Lib.hid (blk_on G2.out hbw)
        have B0 := Lib.hid (H0.out.below hb0)
        have B1 := Lib.hid (H1.out.below hb0)
        have B2 := Lib.hid (H2.out.below hb0)
        have B3 := Lib.hid (H3.out.below hb0)
        have HB0 := Lib.hid hb0
        have HBR := Lib.hid hbr
        clear hbw hb0 hbr
        have hj3 : j = 0 ∨ j = 1 ∨ j = 2 := by omega
        rcases hj3 with rfl | rfl | rfl
        · have c2 : wr.cell? ⟨w.heap.size, 2, none⟩ = some (.slice a0 lr0.length c0) := (cell_of_block K1.out 2).trans rfl
          have c3 : wr.cell? ⟨w.heap.size + 1, 2, none⟩ = some (.slice a0 lr0.length c0) := (cell_of_block K2.out 2).trans rfl
          have c4 : wr.cell? ⟨w.heap.size, 4, none⟩ = some (.slice b0 lf0.length e0) := (cell_of_block K1.out 4).trans rfl
          have c5 : wr.cell? ⟨w.heap.size + 1, 4, none⟩ = some (.slice b0 lf0.length e0) := (cell_of_block K2.out 4).trans rfl
          have s1 : ∀ n, (convert 24 9 (.slice a0 lr0.length c0)).run Try.prog (wr.drewN n) = .ok (.string ⟨lr0.toArray⟩) (wr.drewN n) := fun n => bt_string (B0.out.below (below_drewN (Below.refl _ _) n))
          have s2 : ∀ n, (convert 24 9 (.slice b0 lf0.length e0)).run Try.prog (wr.drewN n) = .ok (.string ⟨lf0.toArray⟩) (wr.drewN n) := fun n => bt_string (B2.out.below (below_drewN (Below.refl _ _) n))
          go_wp2
          go_quiet (fail)
          go_wp2
          exact ⟨⟨1, by omega, rfl, below_drewN HBR.out _⟩, by decide⟩
        · have c2 : wr.cell? ⟨w.heap.size, 3, none⟩ = some (.slice a1 lr1.length c1) := (cell_of_block K1.out 3).trans rfl
          have c3 : wr.cell? ⟨w.heap.size + 1, 3, none⟩ = some (.slice a1 lr1.length c1) := (cell_of_block K2.out 3).trans rfl
          have c4 : wr.cell? ⟨w.heap.size, 5, none⟩ = some (.slice b1 lf1.length e1) := (cell_of_block K1.out 5).trans rfl
          have c5 : wr.cell? ⟨w.heap.size + 1, 5, none⟩ = some (.slice b1 lf1.length e1) := (cell_of_block K2.out 5).trans rfl
          have s1 : ∀ n, (convert 24 9 (.slice a1 lr1.length c1)).run Try.prog (wr.drewN n) = .ok (.string ⟨lr1.toArray⟩) (wr.drewN n) := fun n => bt_string (B1.out.below (below_drewN (Below.refl _ _) n))
          have s2 : ∀ n, (convert 24 9 (.slice b1 lf1.length e1)).run Try.prog (wr.drewN n) = .ok (.string ⟨lf1.toArray⟩) (wr.drewN n) := fun n => bt_string (B3.out.below (below_drewN (Below.refl _ _) n))
          go_wp2
          go_quiet (fail)
          go_wp2
          exact ⟨⟨2, by omega, rfl, below_drewN HBR.out _⟩, by decide⟩
        · go_wp2
          go_ret
          exact ⟨rfl, HB0.out⟩
end Go.Proofs.Ytdiokmaomglefaa
