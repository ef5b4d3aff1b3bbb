/- LogRoom: the walk. -/
import Derived.Test.YtdiokmaomglefaaLRoomA
import Derived.Test.YtdiokmaomglefaaLRoom0
import Derived.BigQuiet
namespace Go.Proofs.Ytdiokmaomglefaa
open Go Go.RowKit

/-- The goal is a list of operations that begins with this load (said by looking). -/
theorem wpl_load {P : Program} {ops : Array Oper} {rest : List Oper} {op : Oper} {a : Act} {w : World} {Q : Exit → Act → World → Prop} (ty : TypeId) (x : Operand) (_ho : op.op = .load ty x) (h : wpList P ops Q (op :: rest) a w) : wpList P ops Q (op :: rest) a w := h
set_option linter.unusedSimpArgs false in
set_option linter.unusedVariables false in
set_option maxRecDepth 100000 in
set_option maxHeartbeats 8000000 in
theorem logRoom_walk (cs : List Value) (v : Value) (w : World) (h : RawDev w cs) (hv : ∃ n, RawB w v n) :
    Calls Try.prog 5 #[.agg cs.toArray, v] w fun e w' => e = .returned (.bool true) ∧ Below w.heap.size w w' := by
  have hi10 : (Try.prog.info? 27).map (·.size) = some 10 := by kernel_rfl
  have hlc : (Try.prog.info? 27).map (·.size) = some cs.length := by rw [hi10, h.ten]
  obtain ⟨n, av, kv, rfl, hnmax, hnl⟩ := hv
  have HR := Lib.hid h
  have HNL := Lib.hid hnl
  unfold maxLen at hnmax
  clear h hnl
  go_enter Try.func5, Try.ntmps5
  go_wp2_with fail
  refine calls_world (fun w0 e0 => ?_)
  obtain ⟨g0, hb0, hs0⟩ := one_alloc e0
  clear e0
  refine (awake_any w0).mono ?_
  rintro e w1 ⟨rfl, hb1⟩
  have HG1 := Lib.hid (blk_on g0 hb1)
  have HB1 := Lib.hid (hb0.trans (hb1.mono (by omega)))
  have r1 := range_of_block (cs := cs) HG1.out
  clear g0 hb0 hs0 hb1
  go_wp2_with (first
    | refine wpList_load_at (by rfl) 27 (.tmp 2) rfl w.heap.size 0 (by rfl) cs _ r1 Try.underlying27 rfl hlc ?_
    | fail)
  refine (smallw_any HR.out HB1.out).mono ?_
  rintro e w2 ⟨⟨sb, rfl, hsb⟩, hb2⟩
  have HG2 := Lib.hid (blk_on HG1.out hb2)
  have HB2 := Lib.hid (HB1.out.trans (hb2.mono HB1.out.size))
  have HSB := Lib.hid hsb
  clear hb2 r1 hsb
  cases sb
  · go_wp2
    refine bodyPost_ret (results_tmp rfl _ _ _) rfl ?_
    exact ⟨rfl, HB2.out⟩
  obtain ⟨d, hd0, hdz, hdl⟩ := HSB.out rfl
  have HDL := Lib.hid hdl
  have HD0 := Lib.hid hd0
  have HD2 := Lib.hid (hd0.below HB2.out)
  obtain ⟨vz, q0, q1, q2, q3, hcs, _⟩ := id hd0
  have HCS := Lib.hid hcs
  have r2 := range_of_block (cs := cs) HG2.out
  clear hd0 hcs hdl HSB HB1 HG1 HR
  go_wp2_with (first
    | refine wpList_load_at (by rfl) 27 (.tmp 2) rfl w.heap.size 0 (by rfl) cs _ r2 Try.underlying27 rfl hlc ?_
    | fail)
  refine (dcheck_any d cs w2 HD2.out).mono ?_
  rintro e w3 ⟨rfl, hb3⟩
  have HG3 := Lib.hid (blk_on HG2.out hb3)
  have HB3 := Lib.hid (HB2.out.trans (hb3.mono HB2.out.size))
  have c6 : w3.cell? ⟨w.heap.size, 6, none⟩ = some (.bool d.down) := (cell_of_block HG3.out 6).trans (by rw [HCS.out]; rfl)
  clear hb3 r2 HG2 HB2 HD2
  cases hok : devOk d
  · go_wp2
    refine bodyPost_ret (results_tmp rfl _ _ _) rfl ?_
    exact ⟨rfl, HB3.out⟩
  have HOK := Lib.hid hok
  clear hok
  by_cases hn0 : n = 0
  · have e1 : ((n : Int) == 0) = true := by rw [hn0]; rfl
    clear hn0
    go_wp2
    refine bodyPost_ret (results_tmp rfl _ _ _) rfl ?_
    exact ⟨rfl, HB3.out⟩
  have e1 : ((n : Int) == 0) = false := by rw [beq_eq_false_iff_ne]; omega
  by_cases hn3 : 300 < n
  · have e2 : decide ((300 : Int) < (n : Int)) = true := decide_eq_true (by omega)
    go_wp2
    refine bodyPost_ret (results_tmp rfl _ _ _) rfl ?_
    exact ⟨rfl, HB3.out⟩
  have e2 : decide ((300 : Int) < (n : Int)) = false := decide_eq_false (by omega)
  cases hdn : d.down
  rotate_left
  · rw [hdn] at c6
    clear hdn
    go_wp2
    refine bodyPost_ret (results_tmp rfl _ _ _) rfl ?_
    exact ⟨rfl, HB3.out⟩
  rw [hdn] at c6
  obtain ⟨b, hbl, hbt⟩ := HNL.out (by omega)
  subst hbl
  obtain ⟨bb, ob, rfl, _⟩ := hbt.where (by omega)
  have hok2 := HOK.out
  have HFR := Lib.hid (show Free (limit d (-1) (-1)) from ⟨hok2, hdn, show (-1 : Int) < 0 by decide, show (-1 : Int) < 0 by decide⟩)
  have HBT := Lib.hid hbt
  have r3 := range_of_block (cs := cs) HG3.out
  have hlen := devOk_count hok2
  have hlen1 : 0 < d.zs.length := by
    have := hok2
    unfold devOk at this
    simp only [Bool.and_eq_true, decide_eq_true_eq] at this
    exact this.1.2.1
  have hlt3 : w.heap.size < w3.heap.size := block_lt HG3.out
  have HDO3 := Lib.hid ((DvO.of (X := [w.heap.size]) HD0.out (by simp)).below HB3.out)
  clear hdn hbt hok2
  go_wp2_with (first
    | refine wpList_load_at (by rfl) 27 (.tmp 2) rfl w.heap.size 0 (by rfl) cs _ r3 Try.underlying27 rfl hlc ?_
    | fail)
  clear e1 e2 c6
  refine (limit_any [w.heap.size] d cs w3 HDO3.out (by intro y hy; simp at hy; omega) hlen1 (by omega) (-1) (-1)).mono ?_
  rintro e w4 ⟨⟨cl, rfl, hd4⟩, hb4⟩
  have hg4 := blk_on HG3.out hb4
  have HB4 := Lib.hid (HB3.out.trans (hb4.mono HB3.out.size))
  have hten0 : cs.toArray.size = 10 := HD0.out.ten
  have hten4 := hd4.is.ten
  have hone4 := hd4.is.one
  have HD4 := Lib.hid hd4
  have hlcl : (Try.prog.info? 27).map (·.size) = some cl.length := by rw [hi10, ← hten4]; rfl
  clear hb4 r3 HG3 HB3 HDO3 hd4 hlt3
  go_wp2_with (first
    | (refine wpList_lay (by rfl) 27 (.tmp 2) (.tmp 40) (by rfl) w.heap.size cl.toArray (by rfl) (by rfl) _ _ hg4 10 hi10 hten4 hten0 hone4 ?_
       intro w5 hL5
       have r5 := range_of_block (cs := cl) hL5.blk
       have HL5 := Lib.hid hL5
       clear hL5)
    | refine wpList_load_at (by rfl) 27 (.tmp 2) rfl w.heap.size 0 (by rfl) cl _ r5 Try.underlying27 rfl hlcl ?_
    | fail)
  have HD5 := Lib.hid (HD4.out.away (Away.laid HL5.out (by simp)))
  have HB5 := Lib.hid (HB4.out.trans (HL5.out.bel.mono (Nat.le_refl _)))
  have HG5 := Lib.hid HL5.out.blk
  have hlt5 : w.heap.size < w5.heap.size := block_lt HG5.out
  have hap := app_any [w.heap.size] (limit d (-1) (-1)) cl b ⟨bb, ob, none⟩ kv w5 HD5.out (by intro y hy; simp at hy; omega) HFR.out (HBT.out.below HB5.out) (by omega)
  clear r5 hten4 hten0 hone4 HB4 HD4 HL5 hg4
  refine hap.mono ?_
  rintro e w6 ⟨⟨cx, dl, zr, ar, nd, er, ac, cc, rfl, hdx, hA, _⟩, hb6⟩
  have hRR : (er = 0 ∧ room d b.length = true ∧ (openN d.zs ≤ 4 ∨ nd = 1) ∧ ∃ (j : Nat) (z : Zn), zr = j ∧ d.zs[j]? = some z ∧ ar = z.data.length ∧ Grew d.zs dl.zs j b) ∨
    ((er = 1 ∨ er = 160) ∧ room d b.length = false ∧ dl.zs = d.zs) ∨
    (room d b.length = true ∧ 4 < openN d.zs ∧ ((er = 0 ∧ nd = 2) ∨ (er = 90 ∧ nd = 1)) ∧ dl.zs.length = d.zs.length) := by
    rcases app_room (d := limit d (-1) (-1)) HOK.out hA with h | ⟨h1, h2, h3⟩ | h
    · exact .inl h
    · exact .inr (.inl ⟨h1, h2, by rw [h3]; rfl⟩)
    · exact .inr (.inr h)
  have HRR := Lib.hid hRR
  have hten6 := hdx.is.ten
  have hone6 := hdx.is.one
  have HDX := Lib.hid hdx.is
  have hlx : (Try.prog.info? 27).map (·.size) = some cx.length := by rw [hi10, ← hten6]; rfl
  have HB6 := Lib.hid (HB5.out.trans (hb6.mono HB5.out.size))
  have HG6 := Lib.hid (blk_on HG5.out hb6)
  have HD6 := Lib.hid (HD5.out.is.below hb6)
  clear hap hA hRR hdx hb6 hlt5
  go_wp2_with (first
    | (refine wpList_lay (by rfl) 27 (.tmp 6) (.tmp 45) (by rfl) w6.heap.size cx.toArray (by rfl) (by rfl) _ _ (heap_alloc_new w6 _) 10 hi10 hten6 (by rfl) hone6 ?_
       intro w7 hL7
       have HL7 := Lib.hid hL7
       clear hL7)
    | fail)
  have hb67 : Below w6.heap.size w6 w7 := ((Below.refl _ w6).alloc (Nat.le_refl _) _).trans HL7.out.bel
  have HB7 := Lib.hid (HB6.out.trans (hb67.mono HB6.out.size))
  have HG7 := Lib.hid (blk_on HG6.out hb67)
  have HX7 := Lib.hid HL7.out.blk
  have HD7 := Lib.hid (HD6.out.below hb67)
  have HDX7 := Lib.hid (HDX.out.below hb67)
  have HBT7 := Lib.hid (HBT.out.below HB7.out)
  clear hb67 HL7 HB6 HG6 HDX HD6 HB5 HG5 HD5 hten6 hone6 HBT
  obtain ⟨vz2, p0, p1, p2, p3, hcl, hz7, _⟩ := id HD7.out
  obtain ⟨az, kz, rfl⟩ := hz7.open
  have HCL := Lib.hid hcl
  have HZ7 := Lib.hid (show Zs w7 (.slice az d.zs.length kz) d.zs from hz7)
  have hbig := hz7.len.2
  have hbig2 : d.zs.length ≤ 9223372036854775807 := hbig
  have hs1 := devOk_size HOK.out
  clear hcl hz7 hbig
  go_loopw [11, 12] (fun rm i wr => ∃ j : Nat, j ≤ d.zs.length ∧ i = .int .i64 j ∧ rm = .bool ((d.zs.take j).any (hasRoom d.size b.length)) ∧ Below w7.heap.size w7 wr) (fun _ i _ => d.zs.length - (intOf i).toNat)
  case atStart => exact ⟨0, by omega, rfl, rfl, Below.refl _ _⟩
  case round =>
    obtain ⟨j, hj, rfl, rfl, hbr⟩ := hrel
    have hgr := blk_on HG7.out hbr
    have c0 : wr.cell? ⟨w.heap.size, 0, none⟩ = some (.int .i64 d.size) := (cell_of_block hgr 0).trans (by rw [HCL.out]; rfl)
    have c1 : wr.cell? ⟨w.heap.size, 1, none⟩ = some (.slice az d.zs.length kz) := (cell_of_block hgr 1).trans (by rw [HCL.out]; rfl)
    have HBR := Lib.hid hbr
    by_cases hlt : j < d.zs.length
    · have hjz : d.zs[j]? = some d.zs[j] := List.getElem?_eq_getElem hlt
      obtain ⟨zb, zo, rfl, hzlt, vd, hbt, hr⟩ := (HZ7.out.below hbr).at j d.zs[j] hjz
      have hany : (d.zs.take (j + 1)).any (hasRoom d.size b.length) = ((d.zs.take j).any (hasRoom d.size b.length) || hasRoom d.size b.length d.zs[j]) := by
        rw [List.take_add_one, hjz, List.any_append]
        simp only [Option.toList_some, List.any_cons, List.any_nil, Bool.or_false]
      have hzo := devOk_zone HOK.out hjz
      have hzlen : (d.zs[j].data.length : Int) ≤ d.size := by
        unfold zoneOk at hzo
        simp only [Bool.and_eq_true, Bool.not_eq_true', decide_eq_false_iff_not] at hzo
        omega
      generalize d.zs[j] = z at hjz hbt hr hany hzlen hzo
      obtain ⟨a2, k2, rfl⟩ := hbt.open
      have z0 : wr.cell? ⟨zb, zo + j * 3, none⟩ = some (.int .i64 z.st) := hr 0 _ rfl
      have z1 : wr.cell? ⟨zb, zo + j * 3 + 1, none⟩ = some (.slice a2 z.data.length k2) := hr 1 _ rfl
      have HAN := Lib.hid hany
      have i1 : (0 : Int) ≤ (j : Int) := by omega
      have i2 : (j : Int) < (d.zs.length : Int) := by omega
      have e1 : IntKind.i64.wrap ((j : Int) + 1) = (j : Int) + 1 := IntWalk.i64_in _ (by omega)
      have e2 : IntKind.i64.wrap (d.size - (z.data.length : Int)) = d.size - (z.data.length : Int) := IntWalk.i64_in _ (by omega)
      clear hjz hbt hr hany hzo hbr hgr
      cases hA : (d.zs.take j).any (hasRoom d.size b.length)
      · rw [hA] at HAN
        clear hA
        by_cases hst : z.st ≤ 1
        · have ds : decide (z.st ≤ 1) = true := decide_eq_true hst
          have HRM := Lib.hid (show hasRoom d.size b.length z = decide ((b.length : Int) ≤ d.size - (z.data.length : Int)) by unfold hasRoom; rw [ds]; rfl)
          go_wp2
          go_quiet (fail)
          go_wp2
          exact ⟨⟨j + 1, by omega, rfl, by rw [HAN.out, HRM.out]; simp, below_drewN HBR.out _⟩, by show d.zs.length - ((j : Int) + 1).toNat < d.zs.length - (j : Int).toNat; omega⟩
        · have ds : decide (z.st ≤ 1) = false := decide_eq_false hst
          have HRM := Lib.hid (show hasRoom d.size b.length z = false by unfold hasRoom; rw [ds]; rfl)
          go_wp2
          go_quiet (fail)
          go_wp2
          exact ⟨⟨j + 1, by omega, rfl, by rw [HAN.out, HRM.out]; simp, below_drewN HBR.out _⟩, by show d.zs.length - ((j : Int) + 1).toNat < d.zs.length - (j : Int).toNat; omega⟩
      · rw [hA] at HAN
        clear hA
        go_wp2
        go_quiet (fail)
        go_wp2
        exact ⟨⟨j + 1, by omega, rfl, by rw [HAN.out]; simp, below_drewN HBR.out _⟩, by show d.zs.length - ((j : Int) + 1).toNat < d.zs.length - (j : Int).toNat; omega⟩
    · have hje : j = d.zs.length := by omega
      subst hje
      have hn2 : decide ((d.zs.length : Int) < (d.zs.length : Int)) = false := decide_eq_false (by omega)
      rw [List.take_length]
      have hrm : d.zs.any (hasRoom d.size b.length) = room d b.length := rfl
      rw [hrm]
      have HB7wr := Lib.hid hbr
      have rL := range_of_block (cs := cl) hgr
      have hopn := dopen_any (limit d (-1) (-1)) cl wr (HD7.out.below hbr)
      have HOP := Lib.hid (show Calls Try.prog 20 #[.agg cl.toArray] wr fun e w' => e = .returned (.int .i64 (openN d.zs)) ∧ Below wr.heap.size wr w' from hopn)
      obtain ⟨vx2, x0, x1, x2, x3, hcx, hzx, _⟩ := id HDX7.out
      obtain ⟨ax, kx, rfl⟩ := hzx.open
      have HCX := Lib.hid hcx
      have HZX := Lib.hid hzx
      have cx1 : wr.cell? ⟨w6.heap.size, 1, none⟩ = some (.slice ax dl.zs.length kx) := (cell_of_block (blk_on HX7.out hbr) 1).trans (by rw [HCX.out]; rfl)
      clear hbr hgr hopn hcx hzx hrm c0
      rcases HRR.out with ⟨her, hrmm, hon, jz, zj, hzr, hzj, har, hgrw⟩ | ⟨her, hrmm, hdz⟩ | ⟨hrmm, ho4, hen, hln⟩
      · subst her
        subst hzr
        subst har
        rw [hrmm]
        have HGR := Lib.hid hgrw
        have HZJ := Lib.hid hzj
        have HON := Lib.hid hon
        have hlen2 : ((dl.zs.length : Int) != (d.zs.length : Int)) = false := by rw [hgrw.1]; simp
        clear hrmm hon hzj hgrw
        go_wp2_with (first
          | refine wpList_load_at (by rfl) 27 (.tmp 2) rfl w.heap.size 0 (by rfl) cl _ rL Try.underlying27 rfl hlcl ?_
          | fail)
        refine HOP.out.mono ?_
        rintro e w8 ⟨rfl, hb8⟩
        have HB7w8 := Lib.hid (HB7wr.out.trans (hb8.mono HB7wr.out.size))
        have cx8 : w8.cell? ⟨w6.heap.size, 1, none⟩ = some (.slice ax dl.zs.length kx) := (cell_of_block (blk_on HX7.out HB7w8.out) 1).trans (by rw [HCX.out]; rfl)
        have c18 : w8.cell? ⟨w.heap.size, 1, none⟩ = some (.slice az d.zs.length kz) := (cell_of_block (blk_on HG7.out HB7w8.out) 1).trans (by rw [HCL.out]; rfl)
        clear hb8 rL cx1 c1
        by_cases h4 : openN d.zs ≤ 4
        · have d4 : decide ((openN d.zs : Int) ≤ 4) = true := decide_eq_true (by omega)
          go_wp2
          clear cx8 c18
          go_loopw [13, 14] (fun i _ wr => ∃ t : Nat, t ≤ d.zs.length ∧ i = .int .i64 t ∧ Below w8.heap.size w8 wr) (fun i _ _ => d.zs.length - (intOf i).toNat)
          case atStart => exact ⟨0, by omega, rfl, Below.refl _ _⟩
          case round =>
            obtain ⟨t, ht, rfl, hbr⟩ := hrel
            have hb7r := HB7w8.out.trans (hbr.mono HB7w8.out.size)
            have hgr := blk_on HG7.out hb7r
            have c1 : wr.cell? ⟨w.heap.size, 1, none⟩ = some (.slice az d.zs.length kz) := (cell_of_block hgr 1).trans (by rw [HCL.out]; rfl)
            have HBR := Lib.hid hbr
            have HBF := Lib.hid (HB7.out.trans (hb7r.mono HB7.out.size))
            by_cases hlt : t < d.zs.length
            · have hjz : d.zs[t]? = some d.zs[t] := List.getElem?_eq_getElem hlt
              obtain ⟨zb, zo, rfl, hzlt, vd, hbt, hr⟩ := (HZ7.out.below hb7r).at t d.zs[t] hjz
              obtain ⟨z', hz', hzd⟩ := HGR.out.2 t d.zs[t] hjz
              have hzl300 := HDL.out d.zs[t] (List.getElem_mem _)
              obtain ⟨xb, xo, hxa, hxlt, vx, hbx, hrx⟩ := (HZX.out.below hb7r).at t z' hz'
              subst hxa
              have hgx := blk_on HX7.out hb7r
              have c2 : wr.cell? ⟨w6.heap.size, 1, none⟩ = some (.slice (some ⟨xb, xo, none⟩) dl.zs.length kx) := (cell_of_block hgx 1).trans (by rw [HCX.out]; rfl)
              have HJ := Lib.hid hjz
              obtain ⟨z, hzz⟩ : ∃ z, d.zs[t] = z := ⟨_, rfl⟩
              rw [hzz] at hbt hr hzd hzl300 HJ
              obtain ⟨a2, k2, rfl⟩ := hbt.open
              obtain ⟨a3, k3, rfl⟩ := hbx.open
              have z1 : wr.cell? ⟨zb, zo + t * 3 + 1, none⟩ = some (.slice a2 z.data.length k2) := hr 1 _ rfl
              have z2 : wr.cell? ⟨xb, xo + t * 3 + 1, none⟩ = some (.slice a3 z'.data.length k3) := hrx 1 _ rfl
              obtain ⟨S1, hS1⟩ : ∃ S : ByteArray, S = ⟨z.data.toArray⟩ := ⟨_, rfl⟩
              obtain ⟨SB, hSB⟩ : ∃ S : ByteArray, S = ⟨b.toArray⟩ := ⟨_, rfl⟩
              have s1 : (convert 24 9 (.slice a2 z.data.length k2)).run Try.prog wr = .ok (.string S1) wr := by rw [hS1]; exact bt_string hbt
              have s2 := bt_string hbx
              have s3 : (convert 24 9 (.slice (some ⟨bb, ob, none⟩) b.length kv)).run Try.prog wr = .ok (.string SB) wr := by rw [hSB]; exact bt_string (HBT7.out.below hb7r)
              have i1 : (0 : Int) ≤ (t : Int) := by omega
              have i2 : (t : Int) < (d.zs.length : Int) := by omega
              have i3 : (t : Int) < (dl.zs.length : Int) := by have := HGR.out.1; omega
              have e1 : IntKind.i64.wrap ((t : Int) + 1) = (t : Int) + 1 := IntWalk.i64_in _ (by omega)
              by_cases htj : t = jz
              · rw [if_pos htj] at hzd
                have hjj : ((t : Int) == (jz : Int)) = true := by rw [htj]; simp
                have hze : zj = z := by have h1 := HZJ.out; have h2 := HJ.out; rw [← htj, h2] at h1; exact (Option.some.inj h1).symm
                have hlz : ((zj.data.length : Int) != (z.data.length : Int)) = false := by rw [hze]; simp
                have s2x : (convert 24 9 (.slice a3 z'.data.length k3)).run Try.prog wr = .ok (.string (S1 ++ SB)) wr := by rw [hS1, hSB, bytes_append, ← hzd]; exact s2
                have hs1 : S1.size ≤ 300 := by rw [hS1]; exact hzl300
                have hs2 : SB.size ≤ 300 := by rw [hSB]; show b.length ≤ 300; omega
                have sa : (Op.stringOp .add S1 SB).run Try.prog wr = .ok (.string (S1 ++ SB)) wr := run_string_add_sum wr S1 SB (by omega)
                clear s2 hS1 hSB
                clear hbt hr hbx hrx hjz hz' hzl300 hgr hgx hbr hb7r htj hze hzd hzz
                go_wp2
                exact ⟨⟨t + 1, by omega, rfl, HBR.out⟩, by show d.zs.length - ((t : Int) + 1).toNat < d.zs.length - (t : Int).toNat; omega⟩
              · rw [if_neg htj] at hzd
                have hjj : ((t : Int) == (jz : Int)) = false := by rw [beq_eq_false_iff_ne]; omega
                have s2x : (convert 24 9 (.slice a3 z'.data.length k3)).run Try.prog wr = .ok (.string S1) wr := by rw [hS1, ← hzd]; exact s2
                clear s2 hS1 hSB
                clear hbt hr hbx hrx hjz hz' hzl300 hgr hgx hbr hb7r htj hzd hzz
                go_wp2
                exact ⟨⟨t + 1, by omega, rfl, HBR.out⟩, by show d.zs.length - ((t : Int) + 1).toNat < d.zs.length - (t : Int).toNat; omega⟩
            · have hte : t = d.zs.length := by omega
              subst hte
              have hn2 : decide ((d.zs.length : Int) < (d.zs.length : Int)) = false := decide_eq_false (by omega)
              clear hbr hb7r hgr
              go_wp2
              refine bodyPost_ret (results_tmp rfl _ _ _) rfl ?_
              exact ⟨rfl, HBF.out⟩
        · have d4 : decide ((openN d.zs : Int) ≤ 4) = false := decide_eq_false (by omega)
          have hnd : nd = 1 := by have := HON.out; omega
          have hnd2 : ((nd : Int) == 1) = true := by rw [hnd]; rfl
          clear hnd
          go_wp2
          clear cx8 c18
          go_loopw [13, 14] (fun i _ wr => ∃ t : Nat, t ≤ d.zs.length ∧ i = .int .i64 t ∧ Below w8.heap.size w8 wr) (fun i _ _ => d.zs.length - (intOf i).toNat)
          case atStart => exact ⟨0, by omega, rfl, Below.refl _ _⟩
          case round =>
            obtain ⟨t, ht, rfl, hbr⟩ := hrel
            have hb7r := HB7w8.out.trans (hbr.mono HB7w8.out.size)
            have hgr := blk_on HG7.out hb7r
            have c1 : wr.cell? ⟨w.heap.size, 1, none⟩ = some (.slice az d.zs.length kz) := (cell_of_block hgr 1).trans (by rw [HCL.out]; rfl)
            have HBR := Lib.hid hbr
            have HBF := Lib.hid (HB7.out.trans (hb7r.mono HB7.out.size))
            by_cases hlt : t < d.zs.length
            · have hjz : d.zs[t]? = some d.zs[t] := List.getElem?_eq_getElem hlt
              obtain ⟨zb, zo, rfl, hzlt, vd, hbt, hr⟩ := (HZ7.out.below hb7r).at t d.zs[t] hjz
              obtain ⟨z', hz', hzd⟩ := HGR.out.2 t d.zs[t] hjz
              have hzl300 := HDL.out d.zs[t] (List.getElem_mem _)
              obtain ⟨xb, xo, hxa, hxlt, vx, hbx, hrx⟩ := (HZX.out.below hb7r).at t z' hz'
              subst hxa
              have hgx := blk_on HX7.out hb7r
              have c2 : wr.cell? ⟨w6.heap.size, 1, none⟩ = some (.slice (some ⟨xb, xo, none⟩) dl.zs.length kx) := (cell_of_block hgx 1).trans (by rw [HCX.out]; rfl)
              have HJ := Lib.hid hjz
              obtain ⟨z, hzz⟩ : ∃ z, d.zs[t] = z := ⟨_, rfl⟩
              rw [hzz] at hbt hr hzd hzl300 HJ
              obtain ⟨a2, k2, rfl⟩ := hbt.open
              obtain ⟨a3, k3, rfl⟩ := hbx.open
              have z1 : wr.cell? ⟨zb, zo + t * 3 + 1, none⟩ = some (.slice a2 z.data.length k2) := hr 1 _ rfl
              have z2 : wr.cell? ⟨xb, xo + t * 3 + 1, none⟩ = some (.slice a3 z'.data.length k3) := hrx 1 _ rfl
              obtain ⟨S1, hS1⟩ : ∃ S : ByteArray, S = ⟨z.data.toArray⟩ := ⟨_, rfl⟩
              obtain ⟨SB, hSB⟩ : ∃ S : ByteArray, S = ⟨b.toArray⟩ := ⟨_, rfl⟩
              have s1 : (convert 24 9 (.slice a2 z.data.length k2)).run Try.prog wr = .ok (.string S1) wr := by rw [hS1]; exact bt_string hbt
              have s2 := bt_string hbx
              have s3 : (convert 24 9 (.slice (some ⟨bb, ob, none⟩) b.length kv)).run Try.prog wr = .ok (.string SB) wr := by rw [hSB]; exact bt_string (HBT7.out.below hb7r)
              have i1 : (0 : Int) ≤ (t : Int) := by omega
              have i2 : (t : Int) < (d.zs.length : Int) := by omega
              have i3 : (t : Int) < (dl.zs.length : Int) := by have := HGR.out.1; omega
              have e1 : IntKind.i64.wrap ((t : Int) + 1) = (t : Int) + 1 := IntWalk.i64_in _ (by omega)
              by_cases htj : t = jz
              · rw [if_pos htj] at hzd
                have hjj : ((t : Int) == (jz : Int)) = true := by rw [htj]; simp
                have hze : zj = z := by have h1 := HZJ.out; have h2 := HJ.out; rw [← htj, h2] at h1; exact (Option.some.inj h1).symm
                have hlz : ((zj.data.length : Int) != (z.data.length : Int)) = false := by rw [hze]; simp
                have s2x : (convert 24 9 (.slice a3 z'.data.length k3)).run Try.prog wr = .ok (.string (S1 ++ SB)) wr := by rw [hS1, hSB, bytes_append, ← hzd]; exact s2
                have hs1 : S1.size ≤ 300 := by rw [hS1]; exact hzl300
                have hs2 : SB.size ≤ 300 := by rw [hSB]; show b.length ≤ 300; omega
                have sa : (Op.stringOp .add S1 SB).run Try.prog wr = .ok (.string (S1 ++ SB)) wr := run_string_add_sum wr S1 SB (by omega)
                clear s2 hS1 hSB
                clear hbt hr hbx hrx hjz hz' hzl300 hgr hgx hbr hb7r htj hze hzd hzz
                go_wp2
                exact ⟨⟨t + 1, by omega, rfl, HBR.out⟩, by show d.zs.length - ((t : Int) + 1).toNat < d.zs.length - (t : Int).toNat; omega⟩
              · rw [if_neg htj] at hzd
                have hjj : ((t : Int) == (jz : Int)) = false := by rw [beq_eq_false_iff_ne]; omega
                have s2x : (convert 24 9 (.slice a3 z'.data.length k3)).run Try.prog wr = .ok (.string S1) wr := by rw [hS1, ← hzd]; exact s2
                clear s2 hS1 hSB
                clear hbt hr hbx hrx hjz hz' hzl300 hgr hgx hbr hb7r htj hzd hzz
                go_wp2
                exact ⟨⟨t + 1, by omega, rfl, HBR.out⟩, by show d.zs.length - ((t : Int) + 1).toNat < d.zs.length - (t : Int).toNat; omega⟩
            · have hte : t = d.zs.length := by omega
              subst hte
              have hn2 : decide ((d.zs.length : Int) < (d.zs.length : Int)) = false := decide_eq_false (by omega)
              clear hbr hb7r hgr
              go_wp2
              refine bodyPost_ret (results_tmp rfl _ _ _) rfl ?_
              exact ⟨rfl, HBF.out⟩
      · rw [hrmm]
        have her0 : (er == 0) = false := by rw [beq_eq_false_iff_ne]; omega
        have HGR := Lib.hid (show Grew d.zs dl.zs d.zs.length b from ⟨by rw [hdz], fun t z hz => ⟨z, by rw [hdz]; exact hz, by rw [if_neg (by have := (List.getElem?_eq_some_iff.1 hz).1; omega)]⟩⟩)
        have hlen2 : ((dl.zs.length : Int) != (d.zs.length : Int)) = false := by rw [hdz]; simp
        clear hrmm hdz her rL
        go_wp2
        clear cx1 c1
        refine code_world (fun wq eq => ?_)
        have HB7wq := Lib.hid (show Below w7.heap.size w7 wq by rw [eq]; exact HB7wr.out)
        clear eq
        go_loopw [13, 14] (fun i _ wr => ∃ t : Nat, t ≤ d.zs.length ∧ i = .int .i64 t ∧ Below wq.heap.size wq wr) (fun i _ _ => d.zs.length - (intOf i).toNat)
        case atStart => exact ⟨0, by omega, rfl, Below.refl _ _⟩
        case round =>
          obtain ⟨t, ht, rfl, hbr⟩ := hrel
          have hb7r := HB7wq.out.trans (hbr.mono HB7wq.out.size)
          have hgr := blk_on HG7.out hb7r
          have c1 : wr.cell? ⟨w.heap.size, 1, none⟩ = some (.slice az d.zs.length kz) := (cell_of_block hgr 1).trans (by rw [HCL.out]; rfl)
          have HBR := Lib.hid hbr
          have HBF := Lib.hid (HB7.out.trans (hb7r.mono HB7.out.size))
          by_cases hlt : t < d.zs.length
          · have hjz : d.zs[t]? = some d.zs[t] := List.getElem?_eq_getElem hlt
            obtain ⟨zb, zo, rfl, hzlt, vd, hbt, hr⟩ := (HZ7.out.below hb7r).at t d.zs[t] hjz
            obtain ⟨z', hz', hzd⟩ := HGR.out.2 t d.zs[t] hjz
            have hzl300 := HDL.out d.zs[t] (List.getElem_mem _)
            obtain ⟨xb, xo, hxa, hxlt, vx, hbx, hrx⟩ := (HZX.out.below hb7r).at t z' hz'
            subst hxa
            have hgx := blk_on HX7.out hb7r
            have c2 : wr.cell? ⟨w6.heap.size, 1, none⟩ = some (.slice (some ⟨xb, xo, none⟩) dl.zs.length kx) := (cell_of_block hgx 1).trans (by rw [HCX.out]; rfl)
            have HJ := Lib.hid hjz
            obtain ⟨z, hzz⟩ : ∃ z, d.zs[t] = z := ⟨_, rfl⟩
            rw [hzz] at hbt hr hzd hzl300 HJ
            obtain ⟨a2, k2, rfl⟩ := hbt.open
            obtain ⟨a3, k3, rfl⟩ := hbx.open
            have z1 : wr.cell? ⟨zb, zo + t * 3 + 1, none⟩ = some (.slice a2 z.data.length k2) := hr 1 _ rfl
            have z2 : wr.cell? ⟨xb, xo + t * 3 + 1, none⟩ = some (.slice a3 z'.data.length k3) := hrx 1 _ rfl
            obtain ⟨S1, hS1⟩ : ∃ S : ByteArray, S = ⟨z.data.toArray⟩ := ⟨_, rfl⟩
            obtain ⟨SB, hSB⟩ : ∃ S : ByteArray, S = ⟨b.toArray⟩ := ⟨_, rfl⟩
            have s1 : (convert 24 9 (.slice a2 z.data.length k2)).run Try.prog wr = .ok (.string S1) wr := by rw [hS1]; exact bt_string hbt
            have s2 := bt_string hbx
            have s3 : (convert 24 9 (.slice (some ⟨bb, ob, none⟩) b.length kv)).run Try.prog wr = .ok (.string SB) wr := by rw [hSB]; exact bt_string (HBT7.out.below hb7r)
            have i1 : (0 : Int) ≤ (t : Int) := by omega
            have i2 : (t : Int) < (d.zs.length : Int) := by omega
            have i3 : (t : Int) < (dl.zs.length : Int) := by have := HGR.out.1; omega
            have e1 : IntKind.i64.wrap ((t : Int) + 1) = (t : Int) + 1 := IntWalk.i64_in _ (by omega)
            rw [if_neg (by omega)] at hzd
            have s2x : (convert 24 9 (.slice a3 z'.data.length k3)).run Try.prog wr = .ok (.string S1) wr := by rw [hS1, ← hzd]; exact s2
            clear s2 hS1 hSB
            clear hbt hr hbx hrx hjz hz' hzl300 hgr hgx hbr hb7r hzd hzz
            go_wp2
            exact ⟨⟨t + 1, by omega, rfl, HBR.out⟩, by show d.zs.length - ((t : Int) + 1).toNat < d.zs.length - (t : Int).toNat; omega⟩
          · have hte : t = d.zs.length := by omega
            subst hte
            have hn2 : decide ((d.zs.length : Int) < (d.zs.length : Int)) = false := decide_eq_false (by omega)
            clear hbr hb7r hgr
            go_wp2
            refine bodyPost_ret (results_tmp rfl _ _ _) rfl ?_
            exact ⟨rfl, HBF.out⟩
      · rw [hrmm]
        have d4 : decide ((openN d.zs : Int) ≤ 4) = false := decide_eq_false (by omega)
        have d5 : decide ((4 : Int) < (openN d.zs : Int)) = true := decide_eq_true (by omega)
        clear hrmm hln ho4
        rcases hen with ⟨her, hnd⟩ | ⟨her, hnd⟩
        all_goals
          subst her
          subst hnd
          go_wp2_with (first
            | refine wpList_load_at (by rfl) 27 (.tmp 2) rfl w.heap.size 0 (by rfl) cl _ rL Try.underlying27 rfl hlcl ?_
            | fail)
          refine HOP.out.mono ?_
          rintro e w8 ⟨rfl, hb8⟩
          have HB7w8 := Lib.hid (HB7wr.out.trans (hb8.mono HB7wr.out.size))
          have r8 := range_of_block (cs := cl) (blk_on HG7.out HB7w8.out)
          have hopn := dopen_any (limit d (-1) (-1)) cl w8 (HD7.out.below HB7w8.out)
          have HOP8 := Lib.hid (show Calls Try.prog 20 #[.agg cl.toArray] w8 fun e w' => e = .returned (.int .i64 (openN d.zs)) ∧ Below w8.heap.size w8 w' from hopn)
          clear hb8 rL cx1 c1 hopn
          go_wp2_with (first
            | ((with_reducible refine wpl_load 27 (.tmp 2) rfl ?_); refine wpList_load_at (by rfl) 27 (.tmp 2) rfl w.heap.size 0 (by rfl) cl _ r8 Try.underlying27 rfl hlcl ?_)
            | fail)
          refine HOP8.out.mono ?_
          rintro e w9 ⟨rfl, hb9⟩
          have HB9 := Lib.hid (HB7.out.trans ((HB7w8.out.trans (hb9.mono HB7w8.out.size)).mono HB7.out.size))
          clear hb9 r8
          go_wp2
          refine bodyPost_ret (results_tmp rfl _ _ _) rfl ?_
          exact ⟨rfl, HB9.out⟩
end Go.Proofs.Ytdiokmaomglefaa
