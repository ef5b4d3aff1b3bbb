/- The log: where bytes may be appended. -/
import Derived.Test.YtdiokmaomglefaaMD
namespace Go.Proofs.Ytdiokmaomglefaa
open Go Go.RowKit

/-- Where so many bytes may be appended: zone, place, the zone that is finished ahead of that (if one is), error. -/
structure Pl where
  zone : Int
  at_ : Int
  fin : Option Int
  err : Int
def placeF (d : Dv) (n : Int) : Pl :=
  if devOk d = false ∨ n < 1 ∨ d.size < n then ⟨0, 0, none, 1⟩
  else if 0 ≤ idxOf (firstP d.size 1 n) d.zs then ⟨idxOf (firstP d.size 1 n) d.zs, match d.zs[(idxOf (firstP d.size 1 n) d.zs).toNat]? with | some z => z.data.length | none => 0, none, 0⟩
  else if idxOf (firstP d.size 0 n) d.zs < 0 then ⟨0, 0, none, 160⟩
  else if 4 ≤ openN d.zs then ⟨idxOf (firstP d.size 0 n) d.zs, 0, some (idxOf (firstP d.size 1 0) d.zs), 0⟩
  else ⟨idxOf (firstP d.size 0 n) d.zs, 0, none, 0⟩
/-- The command ahead of an append. -/
def FinAt (B : Nat) (w : World) (v : Value) : Option Int → Prop
  | none => v = .slice none 0 0
  | some j => w.ownsRow B 37 3 v 1 [.int .i64 3, .int .i64 j, .slice none 0 0]
theorem FinAt.below {B : Nat} {w w' : World} {v : Value} {o : Option Int} (h : FinAt B w v o) (hb : Below w.heap.size w w') : FinAt B w' v o := by
  cases o with
  | none => exact h
  | some j => exact owns_below (w := w) h hb
def PlPost (p : Pl) (w : World) (e : Ending) (w' : World) : Prop := (∃ v, e = .returned (.tuple #[.int .i64 p.zone, .int .i64 p.at_, v, .int .i64 p.err]) ∧ FinAt w.heap.size w' v p.fin) ∧ Below w.heap.size w w'
theorem pl_mk {p : Pl} {w w' : World} {e : Ending} (v : Value) (he : e = .returned (.tuple #[.int .i64 p.zone, .int .i64 p.at_, v, .int .i64 p.err])) (hf : FinAt w.heap.size w' v p.fin) (hb : Below w.heap.size w w') : PlPost p w e w' := ⟨⟨v, he, hf⟩, hb⟩
theorem idxOf_ge (p : Zn → Bool) (zs : List Zn) (h : 0 ≤ idxOf p zs) : ∃ j z, idxOf p zs = (j : Nat) ∧ zs[j]? = some z ∧ p z = true ∧ j < zs.length := by
  unfold idxOf at h ⊢
  cases hf : zs.findIdx? p with
  | none => rw [hf] at h; simp at h
  | some i =>
    rw [List.findIdx?_eq_some_iff_getElem] at hf
    obtain ⟨hi, hp, _⟩ := hf
    exact ⟨i, zs[i], rfl, List.getElem?_eq_getElem hi, hp, hi⟩
theorem below_drewN {B : Nat} {a w : World} (h : Below B a w) (n : Nat) : Below B a (w.drewN n) := h.trans ⟨rfl, rfl, rfl, Nat.le_refl _, fun _ _ => rfl⟩
theorem devOk_size {d : Dv} (h : devOk d = true) : 0 < d.size ∧ d.size ≤ 65536 := by
  unfold devOk at h
  simp only [Bool.and_eq_true, decide_eq_true_eq] at h
  exact h.2
set_option linter.unusedSimpArgs false in
set_option maxRecDepth 100000 in
set_option maxHeartbeats 2000000 in
theorem place_arg (d : Dv) (cs : List Value) (n : Int) (w : World) (h : DvIs w cs d) (hbad : devOk d = false ∨ n < 1 ∨ d.size < n) :
    Calls Try.prog 25 #[.agg cs.toArray, .int .i64 n] w (PlPost ⟨0, 0, none, 1⟩ w) := by
  have hck := fun w' hb => dcheck_any d cs w' (h.below (w' := w') hb)
  obtain ⟨vz, r0, r1, f0, f1, rfl, hz, q0, q1, q2, q3⟩ := h
  obtain ⟨az, cz, rfl⟩ := hz.open
  clear q0 q1 q2 q3
  obtain ⟨size, zs, lr0, lr1, lf0, lf1, down, left, fault, done⟩ := d
  simp only [dcs] at *
  generalize hok' : devOk ⟨size, zs, lr0, lr1, lf0, lf1, down, left, fault, done⟩ = ok at *
  have HK := Lib.hid hck
  have hi10 : (Try.prog.info? 27).map (·.size) = some 10 := by kernel_rfl
  clear hck hok'
  go_enter Try.func25, Try.ntmps25
  go_wp2_with fail
  refine calls_world (fun w0 e0 => ?_)
  obtain ⟨g1, hb0, _⟩ := one_alloc e0
  clear e0
  refine (HK.out _ hb0).mono ?_
  rintro e w1 ⟨rfl, hb1⟩
  have g2 := blk_on g1 hb1
  have hb2 := hb0.trans (hb1.mono hb0.size)
  clear hb0 hb1 g1
  have c0 : w1.cell? ⟨w.heap.size, 0, none⟩ = some (.int .i64 size) := (cell_of_block g2 0).trans rfl
  cases ok with
  | false =>
    go_wp2
    refine bodyPost_ret (results_tmp4 rfl _ _ _) rfl ?_
    exact pl_mk (.slice none 0 0) rfl rfl hb2
  | true =>
    by_cases h1 : n < 1
    · go_wp2
      refine bodyPost_ret (results_tmp4 rfl _ _ _) rfl ?_
      exact pl_mk (.slice none 0 0) rfl rfl hb2
    · have h2 : size < n := by
        rcases hbad with h | h | h
        · cases h
        · exact absurd h h1
        · exact h
      have e1 : decide (n < 1) = false := decide_eq_false h1
      clear hbad h1
      go_wp2
      refine bodyPost_ret (results_tmp4 rfl _ _ _) rfl ?_
      exact pl_mk (.slice none 0 0) rfl rfl hb2
set_option linter.unusedSimpArgs false in
set_option maxRecDepth 100000 in
set_option maxHeartbeats 2000000 in
theorem place_open (d : Dv) (cs : List Value) (n : Int) (w : World) (h : DvIs w cs d) (hok : devOk d = true) (h1 : ¬ n < 1) (h2 : ¬ d.size < n) (j : Nat) (z : Zn) (hj : idxOf (firstP d.size 1 n) d.zs = (j : Nat)) (hjz : d.zs[j]? = some z) :
    Calls Try.prog 25 #[.agg cs.toArray, .int .i64 n] w (PlPost ⟨j, z.data.length, none, 0⟩ w) := by
  have hck := fun w' hb => dcheck_any d cs w' (h.below (w' := w') hb)
  have hsz := devOk_size hok
  have hf := fun w' hb => first_any d cs 1 n w' (h.below (w' := w') hb) (by omega) hsz.2
  rw [hj] at hf
  obtain ⟨vz, r0, r1, f0, f1, rfl, hz, q0, q1, q2, q3⟩ := h
  obtain ⟨az, cz, rfl⟩ := hz.open
  clear q0 q1 q2 q3
  obtain ⟨size, zs, lr0, lr1, lf0, lf1, down, left, fault, done⟩ := d
  simp only [dcs] at *
  generalize hok' : devOk ⟨size, zs, lr0, lr1, lf0, lf1, down, left, fault, done⟩ = ok at *
  have HK := Lib.hid hck
  have hi10 : (Try.prog.info? 27).map (·.size) = some 10 := by kernel_rfl
  have HO := Lib.hid hok
  clear hok
  have HF := Lib.hid hf
  have HZ := Lib.hid hz
  have HJ := Lib.hid hjz
  have hlen := hz.len
  have hjl : j < zs.length := (List.getElem?_eq_some_iff.1 hjz).1
  clear hf hz hsz hj hjz
  clear hck hok'
  go_enter Try.func25, Try.ntmps25
  go_wp2_with fail
  refine calls_world (fun w0 e0 => ?_)
  obtain ⟨g1, hb0, _⟩ := one_alloc e0
  clear e0
  refine (HK.out _ hb0).mono ?_
  rintro e w1 ⟨rfl, hb1⟩
  have g2 := blk_on g1 hb1
  have hb2 := hb0.trans (hb1.mono hb0.size)
  clear hb0 hb1 g1
  obtain rfl : ok = true := HO.out
  have c0 : w1.cell? ⟨w.heap.size, 0, none⟩ = some (.int .i64 size) := (cell_of_block g2 0).trans rfl
  have rg2 := range_of_block (cs := [.int .i64 size, .slice az zs.length cz, r0, r1, f0, f1, .bool down, .int .i64 left, .int .i64 fault, .int .i64 done]) g2
  have e1 : decide (n < 1) = false := decide_eq_false (by omega)
  have e2 : decide (size < n) = false := decide_eq_false (by omega)
  go_wp2_with (refine wpList_load_at (by rfl) 27 (.tmp 2) rfl w.heap.size 0 (by rfl) [.int .i64 size, .slice az zs.length cz, r0, r1, f0, f1, .bool down, .int .i64 left, .int .i64 fault, .int .i64 done] _ rg2 Try.underlying27 rfl hi10 ?_)
  refine (HF.out _ hb2).mono ?_
  rintro e w2 ⟨rfl, hb3⟩
  have g3 := blk_on g2 hb3
  have hb4 := hb2.trans (hb3.mono hb2.size)
  clear hb2 hb3 rg2 c0
  obtain ⟨b, off, rfl, hblt, v, hbt, hr⟩ := (HZ.out.below hb4).at j z HJ.out
  obtain ⟨a2, c2, rfl⟩ := hbt.open
  have c1 : w2.cell? ⟨w.heap.size, 1, none⟩ = some (.slice (some ⟨b, off, none⟩) zs.length cz) := (cell_of_block g3 1).trans rfl
  have cz1 : w2.cell? ⟨b, off + j * 3 + 1, none⟩ = some (.slice a2 z.data.length c2) := hr 1 _ rfl
  have i1 : (0 : Int) ≤ (j : Int) := by omega
  have i2 : (j : Int) < (zs.length : Int) := by omega
  clear hr hbt g2
  go_wp2_with fail
  go_quiet (fail)
  all_goals
    go_wp2
    refine bodyPost_ret (results_tmp4 rfl _ _ _) rfl ?_
    exact pl_mk (.slice none 0 0) rfl rfl (below_drewN hb4 _)
set_option linter.unusedSimpArgs false in
set_option maxRecDepth 100000 in
set_option maxHeartbeats 2000000 in
theorem place_space (d : Dv) (cs : List Value) (n : Int) (w : World) (h : DvIs w cs d) (hok : devOk d = true) (h1 : ¬ n < 1) (h2 : ¬ d.size < n) (hno : idxOf (firstP d.size 1 n) d.zs = -1) (hem : idxOf (firstP d.size 0 n) d.zs = -1) :
    Calls Try.prog 25 #[.agg cs.toArray, .int .i64 n] w (PlPost ⟨0, 0, none, 160⟩ w) := by
  have hck := fun w' hb => dcheck_any d cs w' (h.below (w' := w') hb)
  have hsz := devOk_size hok
  have hop := fun w' hb => dopen_any d cs w' (h.below (w' := w') hb)
  have hf := fun w' hb => first_any d cs 1 n w' (h.below (w' := w') hb) (by omega) hsz.2
  rw [hno] at hf
  have hm := fun w' hb => first_any d cs 0 n w' (h.below (w' := w') hb) (by omega) hsz.2
  rw [hem] at hm
  have hz1 := fun w' hb => first_any d cs 1 0 w' (h.below (w' := w') hb) (by omega) hsz.2
  obtain ⟨vz, r0, r1, f0, f1, rfl, hz, q0, q1, q2, q3⟩ := h
  obtain ⟨az, cz, rfl⟩ := hz.open
  clear q0 q1 q2 q3
  obtain ⟨size, zs, lr0, lr1, lf0, lf1, down, left, fault, done⟩ := d
  simp only [dcs] at *
  generalize hok' : devOk ⟨size, zs, lr0, lr1, lf0, lf1, down, left, fault, done⟩ = ok at *
  have HK := Lib.hid hck
  have hi10 : (Try.prog.info? 27).map (·.size) = some 10 := by kernel_rfl
  have HO := Lib.hid hok
  clear hok
  have HF := Lib.hid hf
  have HM := Lib.hid hm
  have HP := Lib.hid hop
  have H1 := Lib.hid hz1
  clear hf hz hsz hno hem hm hop hz1
  clear hck hok'
  go_enter Try.func25, Try.ntmps25
  go_wp2_with fail
  refine calls_world (fun w0 e0 => ?_)
  obtain ⟨g1, hb0, _⟩ := one_alloc e0
  clear e0
  refine (HK.out _ hb0).mono ?_
  rintro e w1 ⟨rfl, hb1⟩
  have g2 := blk_on g1 hb1
  have hb2 := hb0.trans (hb1.mono hb0.size)
  clear hb0 hb1 g1
  obtain rfl : ok = true := HO.out
  have c0 : w1.cell? ⟨w.heap.size, 0, none⟩ = some (.int .i64 size) := (cell_of_block g2 0).trans rfl
  have rg2 := range_of_block (cs := [.int .i64 size, .slice az zs.length cz, r0, r1, f0, f1, .bool down, .int .i64 left, .int .i64 fault, .int .i64 done]) g2
  have e1 : decide (n < 1) = false := decide_eq_false (by omega)
  have e2 : decide (size < n) = false := decide_eq_false (by omega)
  go_wp2_with (refine wpList_load_at (by rfl) 27 (.tmp 2) rfl w.heap.size 0 (by rfl) [.int .i64 size, .slice az zs.length cz, r0, r1, f0, f1, .bool down, .int .i64 left, .int .i64 fault, .int .i64 done] _ rg2 Try.underlying27 rfl hi10 ?_)
  refine (HF.out _ hb2).mono ?_
  rintro e w2 ⟨rfl, hb3⟩
  have g3 := blk_on g2 hb3
  have hb4 := hb2.trans (hb3.mono hb2.size)
  clear hb2 hb3 rg2 c0 g2
  have rg2 := range_of_block (cs := [.int .i64 size, .slice az zs.length cz, r0, r1, f0, f1, .bool down, .int .i64 left, .int .i64 fault, .int .i64 done]) g3
  go_wp2_with (refine wpList_load_at (by rfl) 27 (.tmp 2) rfl w.heap.size 0 (by rfl) [.int .i64 size, .slice az zs.length cz, r0, r1, f0, f1, .bool down, .int .i64 left, .int .i64 fault, .int .i64 done] _ rg2 Try.underlying27 rfl hi10 ?_)
  refine (HM.out _ hb4).mono ?_
  rintro e w3 ⟨rfl, hb5⟩
  have g4 := blk_on g3 hb5
  have hb6 := hb4.trans (hb5.mono hb4.size)
  clear hb4 hb5 rg2 g3
  go_wp2
  refine bodyPost_ret (results_tmp4 rfl _ _ _) rfl ?_
  exact pl_mk (.slice none 0 0) rfl rfl hb6
set_option linter.unusedSimpArgs false in
set_option maxRecDepth 100000 in
set_option maxHeartbeats 2000000 in
theorem place_empty (d : Dv) (cs : List Value) (n : Int) (w : World) (h : DvIs w cs d) (hok : devOk d = true) (h1 : ¬ n < 1) (h2 : ¬ d.size < n) (hno : idxOf (firstP d.size 1 n) d.zs = -1) (k : Nat) (hem : idxOf (firstP d.size 0 n) d.zs = (k : Nat)) (hop4 : ¬ 4 ≤ openN d.zs) :
    Calls Try.prog 25 #[.agg cs.toArray, .int .i64 n] w (PlPost ⟨k, 0, none, 0⟩ w) := by
  have hck := fun w' hb => dcheck_any d cs w' (h.below (w' := w') hb)
  have hsz := devOk_size hok
  have hop := fun w' hb => dopen_any d cs w' (h.below (w' := w') hb)
  have hf := fun w' hb => first_any d cs 1 n w' (h.below (w' := w') hb) (by omega) hsz.2
  rw [hno] at hf
  have hm := fun w' hb => first_any d cs 0 n w' (h.below (w' := w') hb) (by omega) hsz.2
  rw [hem] at hm
  have hz1 := fun w' hb => first_any d cs 1 0 w' (h.below (w' := w') hb) (by omega) hsz.2
  obtain ⟨vz, r0, r1, f0, f1, rfl, hz, q0, q1, q2, q3⟩ := h
  obtain ⟨az, cz, rfl⟩ := hz.open
  clear q0 q1 q2 q3
  obtain ⟨size, zs, lr0, lr1, lf0, lf1, down, left, fault, done⟩ := d
  simp only [dcs] at *
  generalize hok' : devOk ⟨size, zs, lr0, lr1, lf0, lf1, down, left, fault, done⟩ = ok at *
  have HK := Lib.hid hck
  have hi10 : (Try.prog.info? 27).map (·.size) = some 10 := by kernel_rfl
  have HO := Lib.hid hok
  clear hok
  have HF := Lib.hid hf
  have HM := Lib.hid hm
  have HP := Lib.hid hop
  have H1 := Lib.hid hz1
  clear hf hz hsz hno hem hm hop hz1
  clear hck hok'
  go_enter Try.func25, Try.ntmps25
  go_wp2_with fail
  refine calls_world (fun w0 e0 => ?_)
  obtain ⟨g1, hb0, _⟩ := one_alloc e0
  clear e0
  refine (HK.out _ hb0).mono ?_
  rintro e w1 ⟨rfl, hb1⟩
  have g2 := blk_on g1 hb1
  have hb2 := hb0.trans (hb1.mono hb0.size)
  clear hb0 hb1 g1
  obtain rfl : ok = true := HO.out
  have c0 : w1.cell? ⟨w.heap.size, 0, none⟩ = some (.int .i64 size) := (cell_of_block g2 0).trans rfl
  have rg2 := range_of_block (cs := [.int .i64 size, .slice az zs.length cz, r0, r1, f0, f1, .bool down, .int .i64 left, .int .i64 fault, .int .i64 done]) g2
  have e1 : decide (n < 1) = false := decide_eq_false (by omega)
  have e2 : decide (size < n) = false := decide_eq_false (by omega)
  go_wp2_with (refine wpList_load_at (by rfl) 27 (.tmp 2) rfl w.heap.size 0 (by rfl) [.int .i64 size, .slice az zs.length cz, r0, r1, f0, f1, .bool down, .int .i64 left, .int .i64 fault, .int .i64 done] _ rg2 Try.underlying27 rfl hi10 ?_)
  refine (HF.out _ hb2).mono ?_
  rintro e w2 ⟨rfl, hb3⟩
  have g3 := blk_on g2 hb3
  have hb4 := hb2.trans (hb3.mono hb2.size)
  clear hb2 hb3 rg2 c0 g2
  have rg2 := range_of_block (cs := [.int .i64 size, .slice az zs.length cz, r0, r1, f0, f1, .bool down, .int .i64 left, .int .i64 fault, .int .i64 done]) g3
  go_wp2_with (refine wpList_load_at (by rfl) 27 (.tmp 2) rfl w.heap.size 0 (by rfl) [.int .i64 size, .slice az zs.length cz, r0, r1, f0, f1, .bool down, .int .i64 left, .int .i64 fault, .int .i64 done] _ rg2 Try.underlying27 rfl hi10 ?_)
  refine (HM.out _ hb4).mono ?_
  rintro e w3 ⟨rfl, hb5⟩
  have g4 := blk_on g3 hb5
  have hb6 := hb4.trans (hb5.mono hb4.size)
  clear hb4 hb5 rg2 g3
  have rg2 := range_of_block (cs := [.int .i64 size, .slice az zs.length cz, r0, r1, f0, f1, .bool down, .int .i64 left, .int .i64 fault, .int .i64 done]) g4
  go_wp2_with (refine wpList_load_at (by rfl) 27 (.tmp 2) rfl w.heap.size 0 (by rfl) [.int .i64 size, .slice az zs.length cz, r0, r1, f0, f1, .bool down, .int .i64 left, .int .i64 fault, .int .i64 done] _ rg2 Try.underlying27 rfl hi10 ?_)
  refine (HP.out _ hb6).mono ?_
  rintro e w4 ⟨rfl, hb7⟩
  have g5 := blk_on g4 hb7
  have hb8 := hb6.trans (hb7.mono hb6.size)
  clear hb6 hb7 rg2 g4
  have e3 : decide (4 ≤ ((openN zs : Nat) : Int)) = false := decide_eq_false (by omega)
  have e4 : decide (4 ≤ openN zs) = false := decide_eq_false (by omega)
  go_wp2
  refine bodyPost_ret (results_tmp4 rfl _ _ _) rfl ?_
  exact pl_mk (.slice none 0 0) rfl rfl hb8
set_option linter.unusedSimpArgs false in
set_option maxRecDepth 100000 in
set_option maxHeartbeats 2000000 in
theorem place_finish (d : Dv) (cs : List Value) (n : Int) (w : World) (h : DvIs w cs d) (hok : devOk d = true) (h1 : ¬ n < 1) (h2 : ¬ d.size < n) (hno : idxOf (firstP d.size 1 n) d.zs = -1) (k : Nat) (hem : idxOf (firstP d.size 0 n) d.zs = (k : Nat)) (hop4 : 4 ≤ openN d.zs) :
    Calls Try.prog 25 #[.agg cs.toArray, .int .i64 n] w (PlPost ⟨k, 0, some (idxOf (firstP d.size 1 0) d.zs), 0⟩ w) := by
  have hck := fun w' hb => dcheck_any d cs w' (h.below (w' := w') hb)
  have hsz := devOk_size hok
  have hop := fun w' hb => dopen_any d cs w' (h.below (w' := w') hb)
  have hf := fun w' hb => first_any d cs 1 n w' (h.below (w' := w') hb) (by omega) hsz.2
  rw [hno] at hf
  have hm := fun w' hb => first_any d cs 0 n w' (h.below (w' := w') hb) (by omega) hsz.2
  rw [hem] at hm
  have hz1 := fun w' hb => first_any d cs 1 0 w' (h.below (w' := w') hb) (by omega) hsz.2
  obtain ⟨vz, r0, r1, f0, f1, rfl, hz, q0, q1, q2, q3⟩ := h
  obtain ⟨az, cz, rfl⟩ := hz.open
  clear q0 q1 q2 q3
  obtain ⟨size, zs, lr0, lr1, lf0, lf1, down, left, fault, done⟩ := d
  simp only [dcs] at *
  generalize hok' : devOk ⟨size, zs, lr0, lr1, lf0, lf1, down, left, fault, done⟩ = ok at *
  have HK := Lib.hid hck
  have hi10 : (Try.prog.info? 27).map (·.size) = some 10 := by kernel_rfl
  have HO := Lib.hid hok
  clear hok
  have HF := Lib.hid hf
  have HM := Lib.hid hm
  have HP := Lib.hid hop
  have H1 := Lib.hid hz1
  clear hf hz hsz hno hem hm hop hz1
  generalize idxOf (firstP size 1 0) zs = q at *
  clear hck hok'
  go_enter Try.func25, Try.ntmps25
  go_wp2_with fail
  refine calls_world (fun w0 e0 => ?_)
  obtain ⟨g1, hb0, _⟩ := one_alloc e0
  clear e0
  refine (HK.out _ hb0).mono ?_
  rintro e w1 ⟨rfl, hb1⟩
  have g2 := blk_on g1 hb1
  have hb2 := hb0.trans (hb1.mono hb0.size)
  clear hb0 hb1 g1
  obtain rfl : ok = true := HO.out
  have c0 : w1.cell? ⟨w.heap.size, 0, none⟩ = some (.int .i64 size) := (cell_of_block g2 0).trans rfl
  have rg2 := range_of_block (cs := [.int .i64 size, .slice az zs.length cz, r0, r1, f0, f1, .bool down, .int .i64 left, .int .i64 fault, .int .i64 done]) g2
  have e1 : decide (n < 1) = false := decide_eq_false (by omega)
  have e2 : decide (size < n) = false := decide_eq_false (by omega)
  go_wp2_with (refine wpList_load_at (by rfl) 27 (.tmp 2) rfl w.heap.size 0 (by rfl) [.int .i64 size, .slice az zs.length cz, r0, r1, f0, f1, .bool down, .int .i64 left, .int .i64 fault, .int .i64 done] _ rg2 Try.underlying27 rfl hi10 ?_)
  refine (HF.out _ hb2).mono ?_
  rintro e w2 ⟨rfl, hb3⟩
  have g3 := blk_on g2 hb3
  have hb4 := hb2.trans (hb3.mono hb2.size)
  clear hb2 hb3 rg2 c0 g2
  have rg2 := range_of_block (cs := [.int .i64 size, .slice az zs.length cz, r0, r1, f0, f1, .bool down, .int .i64 left, .int .i64 fault, .int .i64 done]) g3
  go_wp2_with (refine wpList_load_at (by rfl) 27 (.tmp 2) rfl w.heap.size 0 (by rfl) [.int .i64 size, .slice az zs.length cz, r0, r1, f0, f1, .bool down, .int .i64 left, .int .i64 fault, .int .i64 done] _ rg2 Try.underlying27 rfl hi10 ?_)
  refine (HM.out _ hb4).mono ?_
  rintro e w3 ⟨rfl, hb5⟩
  have g4 := blk_on g3 hb5
  have hb6 := hb4.trans (hb5.mono hb4.size)
  clear hb4 hb5 rg2 g3
  have rg2 := range_of_block (cs := [.int .i64 size, .slice az zs.length cz, r0, r1, f0, f1, .bool down, .int .i64 left, .int .i64 fault, .int .i64 done]) g4
  go_wp2_with (refine wpList_load_at (by rfl) 27 (.tmp 2) rfl w.heap.size 0 (by rfl) [.int .i64 size, .slice az zs.length cz, r0, r1, f0, f1, .bool down, .int .i64 left, .int .i64 fault, .int .i64 done] _ rg2 Try.underlying27 rfl hi10 ?_)
  refine (HP.out _ hb6).mono ?_
  rintro e w4 ⟨rfl, hb7⟩
  have g5 := blk_on g4 hb7
  have hb8 := hb6.trans (hb7.mono hb6.size)
  clear hb6 hb7 rg2 g4
  have e3 : decide (4 ≤ ((openN zs : Nat) : Int)) = true := decide_eq_true (by omega)
  have e4 : decide (4 ≤ openN zs) = true := decide_eq_true (by omega)
  have rg2 := range_of_block (cs := [.int .i64 size, .slice az zs.length cz, r0, r1, f0, f1, .bool down, .int .i64 left, .int .i64 fault, .int .i64 done]) g5
  go_wp2_with (refine wpList_load_at (by rfl) 27 (.tmp 2) rfl w.heap.size 0 (by rfl) [.int .i64 size, .slice az zs.length cz, r0, r1, f0, f1, .bool down, .int .i64 left, .int .i64 fault, .int .i64 done] _ rg2 Try.underlying27 rfl hi10 ?_)
  refine (H1.out _ hb8).mono ?_
  rintro e w5 ⟨rfl, hb9⟩
  have hbA := hb8.trans (hb9.mono hb8.size)
  clear hb8 hb9 rg2 g5
  go_wp2
  refine bodyPost_ret (results_tmp4 rfl _ _ _) rfl ?_
  exact pl_mk _ rfl (World.ownsRow_lit _ _ 1 hbA.size (by unfold maxLen; omega) rfl) (hbA.alloc hbA.size _)
end Go.Proofs.Ytdiokmaomglefaa
