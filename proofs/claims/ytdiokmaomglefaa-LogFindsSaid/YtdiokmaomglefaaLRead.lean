/- dev.Read where there are bytes; log.All of what is no device. -/
import Derived.Test.YtdiokmaomglefaaGAll
import Derived.Test.YtdiokmaomglefaaLPlace
namespace Go.Proofs.Ytdiokmaomglefaa
open Go Go.RowKit

set_option linter.unusedSimpArgs false in
set_option maxRecDepth 100000 in
set_option maxHeartbeats 2000000 in
theorem dread_any (d : Dv) (cs : List Value) (w : World) (h : DvIs w cs d) (hok : devOk d = true) (i : Nat) (z : Zn) (hz : d.zs[i]? = some z) (hst : z.st ≠ 4) (p m : Nat) (hm : 0 < m) (hpm : p + m ≤ z.data.length) :
    Calls Try.prog 22 #[.agg cs.toArray, .int .i64 i, .int .i64 p, .int .i64 m] w fun e w' => (∃ v, e = .returned (.tuple #[v, .int .i64 0]) ∧ Bt w' v ((z.data.drop p).take m)) ∧ Below w.heap.size w w' := by
  have hi10 : (Try.prog.info? 27).map (·.size) = some 10 := by kernel_rfl
  have hi3 : (Try.prog.info? 52).map (·.size) = some 3 := by kernel_rfl
  have hck := fun w' hb => dcheck_any d cs w' (h.below (w' := w') hb)
  rw [hok] at hck
  obtain ⟨vz, r0, r1, f0, f1, hcs, hzs, _⟩ := id h
  obtain ⟨az, cz, rfl⟩ := hzs.open
  have hlc : (Try.prog.info? 27).map (·.size) = some cs.length := by rw [hi10, hcs]; rfl
  have hil : i < d.zs.length := (List.getElem?_eq_some_iff.1 hz).1
  have hbig := hzs.len.2
  have HCK := Lib.hid hck
  have HCS := Lib.hid hcs
  have HZS := Lib.hid hzs
  have HZ := Lib.hid hz
  clear hck hcs hzs hz h hok
  have q0 : (w.alloc (.cells cs.toArray 27)).rangeAt w.heap.size 0 cs := range_of_block (heap_alloc_new w _)
  go_enter Try.func22, Try.ntmps22
  go_wp2_with (first
    | refine wpList_load_at (by rfl) 27 (.tmp 4) rfl w.heap.size 0 (by rfl) cs _ q0 Try.underlying27 rfl hlc ?_
    | fail)
  clear q0
  refine calls_world (fun w0 e0 => ?_)
  obtain ⟨g0, hb0, hs0⟩ := one_alloc e0
  clear e0
  refine (HCK.out w0 hb0).mono ?_
  rintro e w1 ⟨rfl, hb1⟩
  have hg1 := blk_on g0 hb1
  have c1 : w1.cell? ⟨w.heap.size, 1, none⟩ = some (.slice az d.zs.length cz) := (cell_of_block hg1 1).trans (by rw [HCS.out]; rfl)
  have HB1 := Lib.hid (hb0.trans (hb1.mono (by omega)))
  obtain ⟨b, off, rfl, hbl, vd, hbt, hr⟩ := (HZS.out.below HB1.out).at i z HZ.out
  obtain ⟨a2, k2, rfl⟩ := hbt.open
  have HBT := Lib.hid hbt
  have d1 : decide ((i : Int) < 0) = false := decide_eq_false (by omega)
  have d2 : decide ((d.zs.length : Int) ≤ (i : Int)) = false := decide_eq_false (by omega)
  have i1 : (0 : Int) ≤ (i : Int) := by omega
  have i2 : (i : Int) < (d.zs.length : Int) := by omega
  clear g0 hb0 hs0 hb1 hg1 hbt
  go_wp2_with (first
    | refine wpList_load_at (by rfl) 52 (.tmp 27) rfl b (off + i * 3) (by rfl) [.int .i64 z.st, .slice a2 z.data.length k2, .int .i64 z.lasts] _ hr Try.underlying52 rfl hi3 ?_
    | fail)
  refine (zread_any z.st z.lasts hst a2 z.data.length k2 z.data w1 HBT.out p m hm hpm).mono ?_
  rintro e w2 ⟨⟨v, rfl, hown⟩, hb2⟩
  have HO := Lib.hid hown
  have HB2 := Lib.hid (HB1.out.trans (hb2.mono HB1.out.size))
  have hl2 := HBT.out.len.2.2.2
  clear hown hb2 hr
  go_wp2
  refine bodyPost_ret (results_tmp2 rfl _ _ _) rfl ?_
  refine ⟨⟨v, rfl, ?_⟩, HB2.out⟩
  have hln : ((z.data.drop p).take m).length = m := by rw [List.length_take, List.length_drop]; omega
  refine own_bt (B := w1.heap.size) (e := 5) ?_ (by rw [hln]; omega)
  rw [hln]
  exact HO.out
set_option linter.unusedSimpArgs false in
set_option maxRecDepth 100000 in
set_option maxHeartbeats 2000000 in
theorem all_arg (d : Dv) (cs : List Value) (w : World) (h : DvIs w cs d) (hok : devOk d = false) :
    Calls Try.prog 16 #[.agg cs.toArray] w fun e w' => e = .returned (.tuple #[.slice none 0 0, .int .i64 1]) ∧ Below w.heap.size w w' := by
  have hi10 : (Try.prog.info? 27).map (·.size) = some 10 := by kernel_rfl
  have hck := fun w' hb => dcheck_any d cs w' (h.below (w' := w') hb)
  rw [hok] at hck
  have hlc : (Try.prog.info? 27).map (·.size) = some cs.length := by
    obtain ⟨vz, r0, r1, f0, f1, hcs, _⟩ := h
    rw [hi10, hcs]
    rfl
  have HCK := Lib.hid hck
  clear hck h hok
  have q0 : (w.alloc (.cells cs.toArray 27)).rangeAt w.heap.size 0 cs := range_of_block (heap_alloc_new w _)
  go_enter Try.func16, Try.ntmps16
  go_wp2_with (first
    | refine wpList_load_at (by rfl) 27 (.tmp 1) rfl w.heap.size 0 (by rfl) cs _ q0 Try.underlying27 rfl hlc ?_
    | fail)
  clear q0
  refine calls_world (fun w0 e0 => ?_)
  obtain ⟨_, hb0, hs0⟩ := one_alloc e0
  clear e0
  refine (HCK.out w0 hb0).mono ?_
  rintro e w1 ⟨rfl, hb1⟩
  have HB1 := Lib.hid (hb0.trans (hb1.mono (by omega)))
  clear hb0 hs0 hb1
  go_wp2
  refine bodyPost_ret (results_tmp2 rfl _ _ _) rfl ?_
  exact ⟨rfl, HB1.out⟩
end Go.Proofs.Ytdiokmaomglefaa
