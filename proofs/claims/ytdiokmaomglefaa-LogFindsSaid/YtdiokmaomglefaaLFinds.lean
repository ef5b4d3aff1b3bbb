/- LogFinds: the walk. -/
import Derived.Test.YtdiokmaomglefaaLFinds0
import Derived.Test.YtdiokmaomglefaaLFindsA
import Derived.Test.YtdiokmaomglefaaLFindsB
import Derived.Test.YtdiokmaomglefaaLSame
import Derived.Test.YtdiokmaomglefaaLSameF
import Derived.Test.YtdiokmaomglefaaLRead
import Derived.Laws.MakeOwn
import Derived.Lib.MinMax
import Derived.BigQuiet
namespace Go.Proofs.Ytdiokmaomglefaa
open Go Go.RowKit

theorem zeros_made (k : Nat) : (madeCells (Value.int .u8 0).cells (k * 1)) = ((List.replicate k (0 : UInt8)).map bv).toArray := by
  apply Array.ext
  · simp [madeCells]
  · intro i h1 h2
    simp [madeCells, Value.cells, bv, Nat.mod_one]
set_option linter.unusedSimpArgs false in
set_option linter.unusedVariables false in
set_option maxRecDepth 100000 in
set_option maxHeartbeats 8000000 in
theorem logFinds_walk (v : Value) (cs0 : List Value) (w : World) (h : RawHs w v) (hk : ∃ l : List UInt8, l.length = 32 ∧ cs0 = l.map bv) :
    Calls Try.prog 6 #[v, .agg cs0.toArray] w fun e w' => e = .returned (.bool true) ∧ Below w.heap.size w w' := by
  have hi10 : (Try.prog.info? 27).map (·.size) = some 10 := by kernel_rfl
  have hi5 : (Try.prog.info? 46).map (·.size) = some 5 := by kernel_rfl
  obtain ⟨i0, hi, hz0, hz1, hz2⟩ := info_parts info_u8
  obtain ⟨k0, ki, kz0, kz1, kz2⟩ := info_parts info_Found
  obtain ⟨al, n, cl, rfl, hnmax, hrow⟩ := h
  obtain ⟨ks, hks, rfl⟩ := hk
  have hi32 : (Try.prog.info? 55).map (·.size) = some (ks.map bv).length := by rw [List.length_map, hks]; kernel_rfl
  have HROW := Lib.hid hrow
  have HKS := Lib.hid hks
  have HNM := Lib.hid hnmax
  clear hrow hks hnmax
  go_enter Try.func6, Try.ntmps6
  go_wp2_with fail
  refine calls_world (fun w0 e0 => ?_)
  obtain ⟨g0, hb0, hs0⟩ := one_alloc e0
  clear e0
  refine (awake_any w0).mono ?_
  rintro e w1 ⟨rfl, hb1⟩
  have HG1 := Lib.hid (blk_on g0 hb1)
  have HB1 := Lib.hid (hb0.trans (hb1.mono (by omega)))
  clear g0 hb0 hs0 hb1
  go_wp2_with fail
  refine (new_any [] 12 300 (by omega) (by omega) (by omega) (by omega) w1 (by simp)).mono ?_
  rintro e w2 ⟨⟨cd, rfl, hd2⟩, hb2⟩
  have hten := hd2.is.ten
  have hone := hd2.is.one
  have hdD : DvO [w2.heap.size] w2 cd (newD 12 300) := hd2.add2 (fun x hx => .inl (by simp at hx; omega))
  have HB2 := Lib.hid (HB1.out.trans (hb2.mono HB1.out.size))
  have HG2 := Lib.hid (blk_on HG1.out hb2)
  have HD2 := Lib.hid hdD
  clear hd2 hdD hb2 HG1 HB1
  go_wp2_with (first
    | ((with_reducible refine wpl_to 27 (.tmp 6) (.tmp 25) rfl ?_)
       refine wpList_lay (by rfl) 27 (.tmp 6) (.tmp 25) (by rfl) w2.heap.size cd.toArray (by rfl) (by rfl) _ _ (heap_alloc_new w2 _) 10 hi10 hten (by rfl) hone ?_
       intro w3 hLw3
       have HL3 := Lib.hid hLw3
       clear hLw3)
    | fail)
  obtain ⟨D, hD⟩ : ∃ D, w2.heap.size = D := ⟨_, rfl⟩
  have hb23 : Below w2.heap.size w2 w3 := ((Below.refl _ w2).alloc (Nat.le_refl _) _).trans HL3.out.bel
  have HB3 := Lib.hid (HB2.out.trans (hb23.mono HB2.out.size))
  have HF3 := Lib.hid (show FdAt D (newD 12 300) [] cd (.slice none 0 0) w3 from ⟨by rw [← hD]; exact HD2.out.below hb23, by rw [← hD]; exact HL3.out.blk, World.ownsRow_nil _ _ _ _⟩)
  have HK3 := Lib.hid (blk_on HG2.out hb23)
  have HKD := Lib.hid (show w.heap.size < D by rw [← hD]; exact block_lt HG2.out)
  rw [hD]
  clear hb23 HL3 HD2 HB2 HG2 hone hten hD
  have hld := logDev_new
  go_loopw [8, 9, 10, 11, 12, 13, 14, 15, 16, 17, 18, 19] (fun vo i _ _ _ _ _ _ _ _ _ _ wr => ∃ (j : Nat) (ao : Option Addr) (co : Nat) (want : List Fd) (d : Dv) (cs : List Value), j ≤ 30 ∧ j ≤ n ∧ i = .int .i64 j ∧ vo = .slice ao j co ∧ want.length = j ∧ LogDev d want ∧ FdAt D d want cs (.slice ao j co) wr ∧ Below D w3 wr)
    (fun _ i _ _ _ _ _ _ _ _ _ _ _ => 30 - (intOf i).toNat)
  case atStart => exact ⟨0, none, 0, [], newD 12 300, cd, by omega, by omega, rfl, rfl, rfl, hld, HF3.out, Below.refl _ _⟩
  case round =>
    obtain ⟨j, ao, co, want, d, cs, hj30, hjn, rfl, rfl, hwl, hLD, hF, hbr⟩ := hrel
    clear hld
    have HWL := Lib.hid hwl
    have HLD := Lib.hid hLD
    have HF := Lib.hid hF
    have HBR := Lib.hid hbr
    have HBW := Lib.hid (HB3.out.trans (hbr.mono (by have := HKD.out; omega)))
    clear hwl hLD hF hbr
    by_cases hgo : j < n ∧ j < 30
    · obtain ⟨hjn1, hj1⟩ := hgo
      obtain ⟨b, off, rfl, hblt, hall⟩ := HROW.out (by omega)
      obtain ⟨z, hz⟩ := hall j hjn1
      have hr5 := range_below hz HBW.out hblt
      obtain ⟨k, hk1, hk2, hkk⟩ : ∃ k : Nat, 1 ≤ k ∧ k ≤ 60 ∧ min (max z.len 1) 60 = (k : Int) := ⟨(min (max z.len 1) 60).toNat, by omega, by omega, by omega⟩
      obtain ⟨ep, hep, hee⟩ : ∃ ep : Nat, ep ≤ 9 ∧ min (max z.epoch 0) 9 = (ep : Int) := ⟨(min (max z.epoch 0) 9).toNat, by omega, by omega⟩
      have d1 : decide ((j : Int) < (n : Int)) = true := decide_eq_true (by omega)
      have d2 : decide ((j : Int) < 30) = true := decide_eq_true (by omega)
      have n1 : (0 : Int) ≤ (j : Int) := by omega
      have n2 : (j : Int) < (n : Int) := by omega
      have e1 : IntKind.i64.wrap ((j : Int) + 1) = (j : Int) + 1 := IntWalk.i64_in _ (by omega)
      clear hz hall hblt hjn
      go_wp2_with (first
        | ((with_reducible refine wpl_at 46 (.tmp 39) rfl ?_); refine wpList_load_at (by rfl) 46 (.tmp 39) rfl b (off + j * 5) (by rfl) _ _ hr5 Try.underlying46 rfl hi5 ?_)
        | ((with_reducible refine wpl_to 46 (.tmp 10) (.tmp 40) rfl ?_)
           refine wpList_lay (by rfl) 46 (.tmp 10) (.tmp 40) (by rfl) wr.heap.size #[.int .i64 z.kind, .int .i64 z.lba, .int .i64 z.len, .int .i64 z.seq, .int .i64 z.epoch] (by rfl) (by rfl) _ _ (heap_alloc_new wr _) 5 hi5 rfl rfl (by simp [Value.oneCell']) ?_
           intro wA hLwA
           have HA := Lib.hid (show Below wr.heap.size wr wA from ((Below.refl _ wr).alloc (Nat.le_refl _) _).trans hLwA.bel)
           have hLA := hLwA.blk
           clear hLwA
           have s1 := set_cell (j := 0) hLA (.int .i64 3)
           have s2 := set_cell (j := 1) s1.blk (.int .i64 0)
           have s3 := set_cell (j := 2) s2.blk (.int .i64 (k : Int))
           have s4 := set_cell (j := 3) s3.blk (.int .i64 (j : Int))
           have s5 := set_cell (j := 4) s4.blk (.int .i64 (ep : Int))
           have f0 := thawed hLA 0
           have f1 := thawed s1.blk 1
           have f2 := thawed s2.blk 2
           have f3 := thawed s3.blk 3
           have f4 := thawed s4.blk 4
           have c0 : (wA).cell? ⟨wr.heap.size, 0, none⟩ = some (.int .i64 z.kind) := (cell_of_block hLA 0).trans rfl
           have c1 : ((wA.setCell ⟨wr.heap.size, 0, none⟩ (.int .i64 3))).cell? ⟨wr.heap.size, 1, none⟩ = some (.int .i64 z.lba) := (cell_of_block s1.blk 1).trans rfl
           have c2 : (((wA.setCell ⟨wr.heap.size, 0, none⟩ (.int .i64 3)).setCell ⟨wr.heap.size, 1, none⟩ (.int .i64 0))).cell? ⟨wr.heap.size, 2, none⟩ = some (.int .i64 z.len) := (cell_of_block s2.blk 2).trans rfl
           have c3 : ((((wA.setCell ⟨wr.heap.size, 0, none⟩ (.int .i64 3)).setCell ⟨wr.heap.size, 1, none⟩ (.int .i64 0)).setCell ⟨wr.heap.size, 2, none⟩ (.int .i64 (k : Int)))).cell? ⟨wr.heap.size, 3, none⟩ = some (.int .i64 z.seq) := (cell_of_block s3.blk 3).trans rfl
           have c4 : (((((wA.setCell ⟨wr.heap.size, 0, none⟩ (.int .i64 3)).setCell ⟨wr.heap.size, 1, none⟩ (.int .i64 0)).setCell ⟨wr.heap.size, 2, none⟩ (.int .i64 (k : Int))).setCell ⟨wr.heap.size, 3, none⟩ (.int .i64 (j : Int)))).cell? ⟨wr.heap.size, 4, none⟩ = some (.int .i64 z.epoch) := (cell_of_block s4.blk 4).trans rfl
           have S5 := Lib.hid s5
           have SB := Lib.hid (s1.bel.trans (s2.bel.trans (s3.bel.trans (s4.bel.trans s5.bel))))
           clear s1 s2 s3 s4 s5 hLA)
        | fail)
      clear hr5
      refine code_world (fun wk ek => ?_)
      have HKH := Lib.hid (show wk.heap[wr.heap.size]? = some (.cells [Value.int .i64 3, .int .i64 0, .int .i64 (k : Int), .int .i64 (j : Int), .int .i64 (ep : Int)].toArray 46 (0, 0)) from by rw [ek]; exact S5.out.blk)
      have HWK := Lib.hid (show Below wr.heap.size wr wk from by rw [ek]; exact HA.out.trans SB.out)
      clear ek f0 f1 f2 f3 f4 c0 c1 c2 c3 c4 S5 SB HA hkk hee
      have hKr := (HBR.out.block _ HKD.out).trans HK3.out
      have hKk := (HWK.out.block _ (block_lt hKr)).trans hKr
      have hlH : wr.heap.size < wk.heap.size := block_lt HKH.out
      have hlK : w.heap.size < wk.heap.size := block_lt hKk
      have rH := range_of_block HKH.out
      have rK : wk.rangeAt w.heap.size 0 (ks.map bv) := range_of_block hKk
      have hl2 : ∀ w', Below wk.heap.size wk w' → w'.cell? ⟨wr.heap.size, 2, none⟩ = some (.int .i64 (k : Int)) := fun w' hb => (hb.cell (p := ⟨wr.heap.size, 2, none⟩) hlH).trans ((cell_of_block HKH.out 2).trans rfl)
      clear hKr hKk
      obtain ⟨bz, hbz⟩ : ∃ bz : List UInt8, bz = List.replicate k 0 := ⟨_, rfl⟩
      have hbl : bz.length = k := by rw [hbz, List.length_replicate]
      have hmk : ∀ wz : World, (Instr.makeSlice 24 (.int .i64 (k : Int)) (.int .i64 (k : Int))).run Try.prog wz = .ok (.slice (some ⟨wz.heap.size, 0, none⟩) bz.length bz.length) (wz.alloc (.cells (bz.map bv).toArray 5)) := fun wz => by
        have h := run_make (P := Try.prog) wz 24 5 i0 (.int .u8 0) Try.underlying24 hi hz0 .i64 .i64 (k : Int) (k : Int) (by omega) (by omega) (by rw [hz2]; omega) (by omega)
        rw [h, Int.toNat_natCast, hz1, zeros_made, ← hbz, hbl]
      have HLH := Lib.hid (log_head (k : Int) (ep : Int) j (by omega) (by omega) (by omega) (by omega) (by omega))
      have HLE := Lib.hid (show (k : Int) = (bz.length : Int) by rw [hbl])
      have hb1 : 1 ≤ bz.length := by omega
      have hb2 : bz.length ≤ 64 := by omega
      clear hbl hbz
      refine wp_region_noPanic ?_
      refine wp_region_held_drew (S := (fun wz => Below wk.heap.size wk wz)) (by kernel_rfl) ?_ (fun hHeld => ?_)
      · exact below_self_drew _
      refine takeL 0 (v := _) rfl (by kernel_rfl) (by kernel_rfl) (by kernel_rfl) (fun _ _ _ h => h) (yieldsIf_load_mid (by rfl) _ _ rfl _ _ rfl [.int .i64 3, .int .i64 0, .int .i64 (k : Int), .int .i64 (j : Int), .int .i64 (ep : Int)] _ (fun w hSw => range_below rH hSw hlH) Try.underlying46 rfl hi5) (by assumption) ?_
      (try simp only [Act.put, List.setIfInBounds_toArray, List.set_cons_zero, List.set_cons_succ])
      refine takeL 1 (v := _) rfl (by kernel_rfl) (by kernel_rfl) (by kernel_rfl) (fun _ _ _ h => h) (yieldsIf_load_mid (by rfl) _ _ rfl _ _ rfl (ks.map bv) _ (fun w hSw => range_below rK hSw hlK) Try.underlying55 rfl hi32) (by assumption) ?_
      (try simp only [Act.put, List.setIfInBounds_toArray, List.set_cons_zero, List.set_cons_succ])
      refine takeL 2 (v := ?_) rfl (by kernel_rfl) (by kernel_rfl) (by kernel_rfl) (fun _ _ _ h => h) (Or.inl ⟨by rfl, ?_⟩) (by assumption) ?_
      rotate_left
      · (intro w hSw; go_simp; try with_reducible rfl)
      (try simp only [Act.put, List.setIfInBounds_toArray, List.set_cons_zero, List.set_cons_succ])
      refine takeL 3 (v := ?_) rfl (by kernel_rfl) (by kernel_rfl) (by kernel_rfl) (fun _ _ _ h => h) (Or.inl ⟨by rfl, ?_⟩) (by assumption) ?_
      rotate_left
      · (intro w hSw; go_simp; try with_reducible rfl)
      (try simp only [Act.put, List.setIfInBounds_toArray, List.set_cons_zero, List.set_cons_succ])
      refine stepL 4 rfl (by kernel_rfl) (fun K hK => ?_)
      go_simp
      refine hK.out _ _ ?_ (fun hHeld => ?_)
      · exact (below_self_drew wk).alloc (Nat.le_refl _) _
      clear hK K
      (try simp only [Act.put, List.setIfInBounds_toArray, List.set_cons_zero, List.set_cons_succ])
      (refine anyH_world (fun wm em => ?_); obtain ⟨gm, hbm2, hsm⟩ := one_alloc (show wm = wk.drew.alloc (.cells (bz.map bv).toArray 5) from em); clear em; have HWM := Lib.hid (show Below wk.heap.size wk wm from (below_self_drew wk).trans hbm2); have HBT := Lib.hid (show Bt wm (.slice (some ⟨wk.heap.size, 0, none⟩) bz.length bz.length) bz from bt_block gm (by omega)); clear gm hbm2 hsm)
      refine stepL 5 rfl (by kernel_rfl) (fun K hK => ?_)
      (go_simp; go_at_call 21; refine (fseal_any ⟨3, 0, (k : Int), (j : Int), (ep : Int)⟩ (HLH.out []).1 ks HKS.out _ bz hb1 hb2 HLE.out wm HBT.out).mono ?_; rintro e wn ⟨⟨vs, x, hx, rfl, hbs⟩, hbn⟩)
      refine hK.out _ _ ?_ (fun hHeld => ?_)
      · exact HWM.out.trans (hbn.mono HWM.out.size)
      clear hK K
      (try simp only [Act.put, List.setIfInBounds_toArray, List.set_cons_zero, List.set_cons_succ])
      refine takeL 6 (v := ?_) rfl (by kernel_rfl) (by kernel_rfl) (by kernel_rfl) (fun _ _ _ h => h) (Or.inl ⟨by rfl, ?_⟩) (by assumption) ?_
      rotate_left
      · (intro w hSw; go_simp; try with_reducible rfl)
      (try simp only [Act.put, List.setIfInBounds_toArray, List.set_cons_zero, List.set_cons_succ])
      refine takeL 7 (v := ?_) rfl (by kernel_rfl) (by kernel_rfl) (by kernel_rfl) (fun _ _ _ h => h) (Or.inl ⟨by rfl, ?_⟩) (by assumption) ?_
      rotate_left
      · (intro w hSw; go_simp; try with_reducible rfl)
      (try simp only [Act.put, List.setIfInBounds_toArray, List.set_cons_zero, List.set_cons_succ])
      refine takeL 8 (v := ?_) rfl (by kernel_rfl) (by kernel_rfl) (by kernel_rfl) (fun _ _ _ h => h) (Or.inl ⟨by rfl, ?_⟩) (by assumption) ?_
      rotate_left
      · (intro w hSw; go_simp; try with_reducible rfl)
      (try simp only [Act.put, List.setIfInBounds_toArray, List.set_cons_zero, List.set_cons_succ])
      refine takeL 9 (v := ?_) rfl (by kernel_rfl) (by kernel_rfl) (by kernel_rfl) (fun _ _ _ h => h) (Or.inl ⟨by rfl, ?_⟩) (by assumption) ?_
      rotate_left
      · (intro w hSw; go_simp; try with_reducible rfl)
      (try simp only [Act.put, List.setIfInBounds_toArray, List.set_cons_zero, List.set_cons_succ])
      refine takeL 10 (v := ?_) rfl (by kernel_rfl) (by kernel_rfl) (by kernel_rfl) (fun _ _ _ h => h) (Or.inl ⟨by rfl, ?_⟩) (by assumption) ?_
      rotate_left
      · (intro w hSw; go_simp; try with_reducible rfl)
      (try simp only [Act.put, List.setIfInBounds_toArray, List.set_cons_zero, List.set_cons_succ])
      refine wpAnyH_done (by kernel_rfl) ?_ _
      refine NoPanic.normal ?_
      obtain ⟨f, hf⟩ : ∃ f, hdW ⟨3, 0, (k : Int), (j : Int), (ep : Int)⟩ ++ x = f := ⟨_, rfl⟩
      have HRD := Lib.hid (show readH f = some ⟨3, 0, (k : Int), (j : Int), (ep : Int)⟩ from by rw [← hf]; exact (HLH.out x).2)
      have hfl : f.length = k + 40 := by
        rw [← hf, List.length_append, hdW_length, hx]
        have := HLE.out
        omega
      rw [hf] at hbs
      obtain ⟨av, cv, rfl⟩ := hbs.open
      obtain ⟨fb, fo, rfl, _, _⟩ := hbs.where (by omega)
      have HFL := Lib.hid hfl
      have HBS := Lib.hid hbs
      have HWN := Lib.hid (show Below wr.heap.size wr wn from HWK.out.trans ((HWM.out.trans (hbn.mono HWM.out.size)).mono HWK.out.size))
      have HFN := Lib.hid (HF.out.below HWN.out)
      have HHN := Lib.hid (blk_on HKH.out (HWM.out.trans (hbn.mono HWM.out.size)))
      have rD := range_of_block HFN.out.blk
      have hlcs : (Try.prog.info? 27).map (·.size) = some cs.length := by rw [hi10, ← HFN.out.dev.is.ten]; rfl
      have hten0 : cs.toArray.size = 10 := HFN.out.dev.is.ten
      have hap := app_any ([D] ++ (Value.ownBlock (.slice ao j co)).toList) d cs f ⟨fb, fo, none⟩ cv wn HFN.out.dev HFN.out.lt HLD.out.free HBS.out (by omega)
      clear hfl hbs hf hx hbn rH rK hl2 hmk hlH hlK HWM HBT HKH HWK hb1 hb2 HLE
      go_wp2_with (first
        | ((with_reducible refine wpl_at 27 (.tmp 6) rfl ?_); refine wpList_load_at (by rfl) 27 (.tmp 6) rfl D 0 (by rfl) cs _ rD Try.underlying27 rfl hlcs ?_)
        | fail)
      refine hap.mono ?_
      rintro e w6 ⟨⟨cx, dl, zr, ar, nd, er, ac, cc, rfl, hdx, hA, hE⟩, hb6⟩
      have hst := finds_step HLD.out HRD.out (by rw [sizeF_ok (HLH.out []).1]; show (f.length : Int) = (k : Int) + 40; have := HFL.out; omega) (by have := HFL.out; omega) (by have := HFL.out; omega) (by show (j : Int) = _; rw [HWL.out]) hA
      have hten6 := hdx.is.ten
      have hone6 := hdx.is.one
      have HDX := Lib.hid hdx
      have hlx : (Try.prog.info? 27).map (·.size) = some cx.length := by rw [hi10, ← hten6]; rfl
      have HB6 := Lib.hid (HWN.out.trans (hb6.mono HWN.out.size))
      have hb6n : Below wn.heap.size wn w6 := hb6
      clear hap hA hdx hb6 rD hE
      rcases hst with ⟨her, hem⟩ | ⟨her, hnd, jz, p, zz, hzr, har, hLD2, hzz, hzst, hpl, hdt⟩
      · subst her
        have h0 : ((emptyN d.zs : Int) == 0) = true := by rw [hem]; rfl
        clear hem
        go_wp2_with (first
          | ((with_reducible refine wpl_to 27 (.tmp 13) (.tmp 68) rfl ?_)
             refine wpList_lay (by rfl) 27 (.tmp 13) (.tmp 68) (by rfl) w6.heap.size cx.toArray (by rfl) (by rfl) _ _ (heap_alloc_new w6 _) 10 hi10 hten6 (by rfl) hone6 ?_
             intro w7 hLw7
             have HB7 := Lib.hid (show Below wr.heap.size wr w7 from HB6.out.trans ((((Below.refl _ w6).alloc (Nat.le_refl _) _).trans hLw7.bel).mono HB6.out.size))
             have HF7 := Lib.hid (HF.out.below HB7.out)
             have rD := range_of_block HF7.out.blk
             clear hLw7)
          | ((with_reducible refine wpl_at 27 (.tmp 6) rfl ?_); refine wpList_load_at (by rfl) 27 (.tmp 6) rfl D 0 (by rfl) cs _ rD Try.underlying27 rfl hlcs ?_)
          | fail)
        refine (lempty_any d cs w7 HF7.out.dev.is).mono ?_
        rintro e w8 ⟨rfl, hb8⟩
        have HBF := Lib.hid (HBW.out.trans ((HB7.out.trans (hb8.mono HB7.out.size)).mono HBW.out.size))
        clear hb8 rD
        go_wp2
        refine bodyPost_ret (results_tmp rfl _ _ _) rfl ?_
        exact ⟨rfl, HBF.out⟩
      · subst her
        subst hzr
        subst har
        have HLD2 := Lib.hid hLD2
        have HDT := Lib.hid hdt
        have HZ := Lib.hid hzz
        have HPL := Lib.hid hpl
        have hn1 : decide ((nd : Int) < 1) = false := decide_eq_false (by omega)
        have hn2 : decide ((2 : Int) < (nd : Int)) = false := decide_eq_false (by omega)
        clear hLD2 hdt hnd hzz hpl
        go_wp2_with (first
          | ((with_reducible refine wpl_to 27 (.tmp 13) (.tmp 68) rfl ?_)
             refine wpList_lay (by rfl) 27 (.tmp 13) (.tmp 68) (by rfl) w6.heap.size cx.toArray (by rfl) (by rfl) _ _ (heap_alloc_new w6 _) 10 hi10 hten6 (by rfl) hone6 ?_
             intro w7 hLw7
             have hb67 : Below w6.heap.size w6 w7 := ((Below.refl _ w6).alloc (Nat.le_refl _) _).trans hLw7.bel
             have HB7 := Lib.hid (show Below wr.heap.size wr w7 from HB6.out.trans (hb67.mono HB6.out.size))
             have HDX7 := Lib.hid (HDX.out.below hb67)
             have HBX7 := Lib.hid hLw7.blk
             have HBS7 := Lib.hid (HBS.out.below (hb6n.trans (hb67.mono hb6n.size)))
             have HHN7 := Lib.hid (blk_on HHN.out (hb6n.trans (hb67.mono hb6n.size)))
             have rX := range_of_block hLw7.blk
             clear hLw7 hb67 HHN)
          | ((with_reducible refine wpl_at 27 (.tmp 13) rfl ?_); refine wpList_load_at (by rfl) 27 (.tmp 13) rfl w6.heap.size 0 (by rfl) cx _ rX Try.underlying27 rfl hlx ?_)
          | fail)
        clear rX hb6n
        refine (dread_any dl cx w7 HDX7.out.is HLD2.out.free.ok jz zz HZ.out hzst p f.length (by have := HFL.out; omega) HPL.out).mono ?_
        rintro e w8 ⟨⟨vr, rfl, hbv⟩, hb8⟩
        rw [HDT.out] at hbv
        obtain ⟨ar8, cr8, rfl⟩ := hbv.open
        obtain ⟨S, hS⟩ : ∃ S : ByteArray, S = ⟨f.toArray⟩ := ⟨_, rfl⟩
        have s1 : (convert 24 9 (.slice ar8 f.length cr8)).run Try.prog w8 = .ok (.string S) w8 := by rw [hS]; exact bt_string hbv
        have s2 : (convert 24 9 (.slice (some ⟨fb, fo, none⟩) f.length cv)).run Try.prog w8 = .ok (.string S) w8 := by rw [hS]; exact bt_string (HBS7.out.below hb8)
        have HB8 := Lib.hid (HB7.out.trans (hb8.mono HB7.out.size))
        have HF8 := Lib.hid (HF.out.below HB8.out)
        have HDX8 := Lib.hid (HDX7.out.below hb8)
        have HBX8 := Lib.hid (blk_on HBX7.out hb8)
        have rH8 := range_of_block (blk_on HHN7.out hb8)
        have X := one_alloc (w := w8) (o1 := .cells #[.int .i64 3, .int .i64 0, .int .i64 (k : Int), .int .i64 (j : Int), .int .i64 (ep : Int), .int .i64 (jz : Int), .int .i64 (p : Int)] 48) rfl
        have hcs : (w8.alloc (.cells #[.int .i64 3, .int .i64 0, .int .i64 (k : Int), .int .i64 (j : Int), .int .i64 (ep : Int), .int .i64 (jz : Int), .int .i64 (p : Int)] 48)).rangeAt w8.heap.size 0 (encF ⟨⟨3, 0, (k : Int), (j : Int), (ep : Int)⟩, jz, p⟩) := range_of_block (cs := encF ⟨⟨3, 0, (k : Int), (j : Int), (ep : Int)⟩, jz, p⟩) X.1
        have hown2 := owns_below HF8.out.own X.2.1
        rw [HWL.out] at hown2
        have HXB := Lib.hid X.2.1
        have hbase : D + 1 ≤ (w8.alloc (.cells #[.int .i64 3, .int .i64 0, .int .i64 (k : Int), .int .i64 (j : Int), .int .i64 (ep : Int), .int .i64 (jz : Int), .int .i64 (p : Int)] 48)).heap.size := by have h1 := block_lt HF8.out.blk; have h2 := X.2.1.size; omega
        have HQ := Lib.hid (show wr.heap.size ≤ w6.heap.size from HB6.out.size)
        clear hb8 hbv hS X HBS HBS7 HHN7
        go_wp2_with (first
          | ((with_reducible refine wpl_at 46 (.tmp 10) rfl ?_); refine wpList_load_at (by rfl) 46 (.tmp 10) rfl wr.heap.size 0 (by rfl) _ _ rH8 Try.underlying46 rfl hi5 ?_)
          | (at_builtin
             refine wpList_append_at _ rfl (.tmp 113) (.tmp 118) 41 rfl (D + 1) 48 k0 _ 7 56 Try.underlying41 ki kz0 kz1 kz2 rfl (by decide) (.slice ao j co) j (fcells want) rfl hown2 w8.heap.size 1 1 (encF ⟨⟨3, 0, (k : Int), (j : Int), (ep : Int)⟩, jz, p⟩) rfl hcs rfl (encF_one _) (by unfold maxLen; omega) (by omega) hbase ?_
             intro v9 w9 hown9 hg9 hl9
             obtain ⟨a9, c9, rfl, _⟩ := own_rw hown9
             have HO9 := Lib.hid hown9
             have HG9 := Lib.hid hg9
             have HL9 := Lib.hid hl9
             have rX9 := range_of_block (HF.out.keep HQ.out hg9 (blk_on HBX8.out HXB.out))
             have hgD9 := (hg9.block D (block_lt (blk_on HF8.out.blk HXB.out)) (fun e => by have := (hown2.lt D e.symm).1; omega)).trans (blk_on HF8.out.blk HXB.out)
             clear hown9 hg9 hl9 hown2 hcs rH8)
          | ((with_reducible refine wpl_at 27 (.tmp 13) rfl ?_); refine wpList_load_at (by rfl) 27 (.tmp 13) rfl w6.heap.size 0 (by rfl) cx _ rX9 Try.underlying27 rfl hlx ?_)
          | ((with_reducible refine wpl_to 27 (.tmp 6) (.tmp 120) rfl ?_)
             refine wpList_lay (by rfl) 27 (.tmp 6) (.tmp 120) (by rfl) D cx.toArray (by rfl) (by rfl) _ _ hgD9 10 hi10 hten6 hten0 hone6 ?_
             intro w10 hLw10
             have HL10 := Lib.hid hLw10
             clear hLw10 rX9)
          | fail)
        refine ⟨⟨j + 1, a9, c9, want ++ [⟨⟨3, 0, (k : Int), (j : Int), (ep : Int)⟩, jz, p⟩], dl, cx, by omega, by omega, congrArg (Value.int .i64) (by omega), rfl, by rw [List.length_append, HWL.out]; rfl, HLD2.out, ?_, ?_⟩, by show 30 - ((j : Int) + 1).toNat < 30 - (j : Int).toNat; omega⟩
        · exact FdAt.next (vo := .slice ao j co) (HDX8.out.below HXB.out) (by rw [HWL.out]; exact HO9.out) HG9.out HL9.out HL10.out
        · exact HF.out.bel HBR.out (HB8.out.trans (HXB.out.mono HB8.out.size)) HG9.out HL10.out
    · by_cases hjn1 : j < n
      · have hj1 : ¬ j < 30 := fun h => hgo ⟨hjn1, h⟩
        have d1 : decide ((j : Int) < (n : Int)) = true := decide_eq_true (by omega)
        have d2 : decide ((j : Int) < 30) = false := decide_eq_false (by omega)
        clear hgo
        have rD := range_of_block HF.out.blk
        have hlcs : (Try.prog.info? 27).map (·.size) = some cs.length := by rw [hi10, ← HF.out.dev.is.ten]; rfl
        go_wp2_with (first
          | ((with_reducible refine wpl_at 27 (.tmp 6) rfl ?_); refine wpList_load_at (by rfl) 27 (.tmp 6) rfl D 0 (by rfl) cs _ rD Try.underlying27 rfl hlcs ?_)
          | fail)
        refine (all_any d cs wr HF.out.dev.is HLD.out.free.ok).mono ?_
        rintro e ws ⟨⟨aa, ca, l, rfl, hperm, hord, hrw⟩, hbs⟩
        have hle : l = want := order_one hperm HLD.out.perm hord HLD.out.order
        subst hle
        have hwl := HWL.out
        subst hwl
        have HRW := Lib.hid hrw
        have HWO := Lib.hid (own_rw (HF.out.below hbs).own)
        have HBS := Lib.hid (HBW.out.trans (hbs.mono HBW.out.size))
        clear hperm hord hrw hbs rD
        go_wp2_with fail
        refine (fsame_refl aa ao ca co l ws HRW.out HWO.out).mono ?_
        rintro e wt ⟨rfl, hbt⟩
        have HRW2 := Lib.hid (HRW.out.below hbt)
        have HBT := Lib.hid (HBS.out.trans (hbt.mono HBS.out.size))
        clear hbt HRW HWO
        go_wp2_with fail
        refine (next_any aa ca l (fun f hf => ?_) wt HRW2.out).mono ?_
        · obtain ⟨q, hq⟩ := List.getElem?_of_mem hf
          have h1 := HLD.out.seq q f hq
          have h2 := (List.getElem?_eq_some_iff.1 hq).1
          omega
        rintro e wu ⟨rfl, hbu⟩
        have hnx : ((nextOf l : Int) == (l.length : Int)) = true := by rw [HLD.out.next]; simp
        have HBU := Lib.hid (HBT.out.trans (hbu.mono HBT.out.size))
        clear hbu HRW2
        go_wp2
        refine bodyPost_ret (results_tmp rfl _ _ _) rfl ?_
        exact ⟨rfl, HBU.out⟩
      · have d1 : decide ((j : Int) < (n : Int)) = false := decide_eq_false (by omega)
        clear hgo
        have rD := range_of_block HF.out.blk
        have hlcs : (Try.prog.info? 27).map (·.size) = some cs.length := by rw [hi10, ← HF.out.dev.is.ten]; rfl
        go_wp2_with (first
          | ((with_reducible refine wpl_at 27 (.tmp 6) rfl ?_); refine wpList_load_at (by rfl) 27 (.tmp 6) rfl D 0 (by rfl) cs _ rD Try.underlying27 rfl hlcs ?_)
          | fail)
        refine (all_any d cs wr HF.out.dev.is HLD.out.free.ok).mono ?_
        rintro e ws ⟨⟨aa, ca, l, rfl, hperm, hord, hrw⟩, hbs⟩
        have hle : l = want := order_one hperm HLD.out.perm hord HLD.out.order
        subst hle
        have hwl := HWL.out
        subst hwl
        have HRW := Lib.hid hrw
        have HWO := Lib.hid (own_rw (HF.out.below hbs).own)
        have HBS := Lib.hid (HBW.out.trans (hbs.mono HBW.out.size))
        clear hperm hord hrw hbs rD
        go_wp2_with fail
        refine (fsame_refl aa ao ca co l ws HRW.out HWO.out).mono ?_
        rintro e wt ⟨rfl, hbt⟩
        have HRW2 := Lib.hid (HRW.out.below hbt)
        have HBT := Lib.hid (HBS.out.trans (hbt.mono HBS.out.size))
        clear hbt HRW HWO
        go_wp2_with fail
        refine (next_any aa ca l (fun f hf => ?_) wt HRW2.out).mono ?_
        · obtain ⟨q, hq⟩ := List.getElem?_of_mem hf
          have h1 := HLD.out.seq q f hq
          have h2 := (List.getElem?_eq_some_iff.1 hq).1
          omega
        rintro e wu ⟨rfl, hbu⟩
        have hnx : ((nextOf l : Int) == (l.length : Int)) = true := by rw [HLD.out.next]; simp
        have HBU := Lib.hid (HBT.out.trans (hbu.mono HBT.out.size))
        clear hbu HRW2
        go_wp2
        refine bodyPost_ret (results_tmp rfl _ _ _) rfl ?_
        exact ⟨rfl, HBU.out⟩
end Go.Proofs.Ytdiokmaomglefaa
