/- log.All: all frames of a device, in order. -/
import Derived.Test.YtdiokmaomglefaaGSort
import Derived.Test.YtdiokmaomglefaaGScan
import Derived.Test.YtdiokmaomglefaaMD
import Derived.Test.YtdiokmaomglefaaLOwn0
import Derived.Test.YtdiokmaomglefaaGNonce
import Derived.Maps.AppendAt
namespace Go.Proofs.Ytdiokmaomglefaa
open Go Go.RowKit

theorem info_found : (Try.prog.info? 77).map (fun i => (i.zero, i.size, i.bytes)) = some (some (.agg #[.int .i64 0, .int .i64 0, .int .i64 0, .int .i64 0, .int .i64 0, .int .i64 0, .int .i64 0]), 7, 56) := by kernel_rfl
theorem info_Found : (Try.prog.info? 48).map (fun i => (i.zero, i.size, i.bytes)) = some (some (.agg #[.int .i64 0, .int .i64 0, .int .i64 0, .int .i64 0, .int .i64 0, .int .i64 0, .int .i64 0]), 7, 56) := by kernel_rfl
theorem scan_len (k : Nat) (b : List UInt8) (a : Nat) : (scanF k b a).length ≤ k := by
  induction k generalizing a with
  | zero => simp [scanF]
  | succ k ih =>
    unfold scanF
    split
    · simp
    · split
      · simp
      · simp only [List.length_cons]
        have := ih (a + (sizeF (‹Hd›).len).toNat)
        omega
theorem framesFrom_app (a b : List Zn) (i : Nat) : framesFrom i (a ++ b) = framesFrom i a ++ framesFrom (i + a.length) b := by
  induction a generalizing i with
  | nil => simp [framesFrom]
  | cons z a ih =>
    simp only [List.cons_append, framesFrom, List.length_cons, ih, List.append_assoc]
    rw [show i + 1 + a.length = i + (a.length + 1) by omega]
theorem frames_snoc (zs : List Zn) (j : Nat) (z : Zn) (hz : zs[j]? = some z) : frames (zs.take (j + 1)) = frames (zs.take j) ++ zoneFs j z := by
  have hj : j < zs.length := (List.getElem?_eq_some_iff.1 hz).1
  rw [List.take_add_one, hz]
  unfold frames
  rw [framesFrom_app]
  simp [framesFrom, List.length_take, Nat.min_eq_left (Nat.le_of_lt hj)]
theorem hcells_at (l : List (Hd × Nat)) (j : Nat) (p : Hd × Nat) (h : l[j]? = some p) (m : Nat) (u : Value) (hu : (hv p.1).toList[m]? = some u) : (hcells l)[j * 5 + m]? = some u := by
  induction l generalizing j with
  | nil => simp at h
  | cons r l ih =>
    have e : hcells (r :: l) = (hv r.1).toList ++ hcells l := rfl
    have hp : ((hv r.1).toList).length = 5 := rfl
    rw [e]
    cases j with
    | zero =>
      simp at h
      subst h
      have hm : m < ((hv r.1).toList).length := (List.getElem?_eq_some_iff.1 hu).1
      rw [List.getElem?_append_left (by omega)]
      simpa using hu
    | succ j =>
      rw [List.getElem?_append_right (by omega), show (j + 1) * 5 + m - ((hv r.1).toList).length = j * 5 + m by omega]
      exact ih j (by simpa using h)
theorem row7 {w : World} {g : Nat} {y : Hd × Nat} {j : Nat} (h : w.heap[g]? = some (.cells #[.int .i64 y.1.kind, .int .i64 y.1.lba, .int .i64 y.1.len, .int .i64 y.1.seq, .int .i64 y.1.epoch, .int .i64 (j : Int), .int .i64 (y.2 : Int)] 77 (0, 0))) : ∀ k u, (encF ⟨y.1, j, y.2⟩)[k]? = some u → w.cell? ((⟨g, 0, none⟩ : Addr).add k) = some u := fun k u hk => by
  rw [show (⟨g, 0, none⟩ : Addr).add k = ⟨g, 0 + k, none⟩ from Go.WideShapes.add_plain _ _ _, Nat.zero_add, cell_of_block h k]
  simpa [encF] using hk
/-- A row of the call's own is as it was where its own blocks are. -/
theorem own_in {w w' : World} {B E n sz : Nat} {e : TypeId} {v : Value} {xs : List Value} (h : w.ownsRow B e sz v n xs) (hE : w.heap.size ≤ E) (hs : ∀ k, B ≤ k → k < E → w'.heap[k]? = w.heap[k]?) : w'.ownsRow B e sz v n xs := by
  refine ⟨h.1, ?_⟩
  rcases h.2 with h0 | ⟨g, cap, cur, rfl, hB, hh, hr⟩
  · exact Or.inl h0
  · exact Or.inr ⟨g, cap, cur, rfl, hB, (hs g hB (Nat.lt_of_lt_of_le (block_lt hh) hE)).trans hh, hr⟩
theorem devOk_data {d : Dv} (h : devOk d = true) : ∀ z ∈ d.zs, z.data.length ≤ 65536 := by
  intro z hz
  have hs : d.size ≤ 65536 := by
    unfold devOk at h
    simp only [Bool.and_eq_true, decide_eq_true_eq] at h
    exact h.2.2
  unfold devOk at h
  simp only [Bool.and_eq_true] at h
  have h1 := List.all_eq_true.1 h.1.1.1 z hz
  unfold zoneOk at h1
  simp only [Bool.and_eq_true, Bool.not_eq_true', decide_eq_false_iff_not] at h1
  omega
theorem devOk_count {d : Dv} (h : devOk d = true) : d.zs.length ≤ 64 := by
  unfold devOk at h
  simp only [Bool.and_eq_true, decide_eq_true_eq] at h
  exact h.1.2.2
set_option linter.unusedSimpArgs false in
set_option linter.unusedVariables false in
set_option maxRecDepth 100000 in
set_option maxHeartbeats 4000000 in
theorem all_any (d : Dv) (cs : List Value) (w : World) (h : DvIs w cs d) (hok : devOk d = true) :
    Calls Try.prog 16 #[.agg cs.toArray] w fun e w' => (∃ (a : Option Addr) (cap : Nat) (l : List Fd), e = .returned (.tuple #[.slice a l.length cap, .int .i64 0]) ∧ l.Perm (frames d.zs) ∧ InOrder l ∧ Rw 7 w' (.slice a l.length cap) l.length (fcells l)) ∧ Below w.heap.size w w' := by
  obtain ⟨i0, hi, hz0, hz1, hz2⟩ := info_parts info_found
  obtain ⟨k0, ki, kz0, kz1, kz2⟩ := info_parts info_Found
  have hck := fun w' hb => dcheck_any d cs w' (h.below (w' := w') hb)
  rw [hok] at hck
  have hdl : ∀ z ∈ d.zs, z.data.length ≤ 65536 := devOk_data hok
  have hdn := devOk_count hok
  obtain ⟨vz, r0, r1, f0, f1, rfl, hz, q0, q1, q2, q3⟩ := h
  obtain ⟨az, cz, rfl⟩ := hz.open
  clear q0 q1 q2 q3 hok
  obtain ⟨size, zs, lr0, lr1, lf0, lf1, down, left, fault, done⟩ := d
  simp only [dcs] at *
  have HK := Lib.hid hck
  have hi10 : (Try.prog.info? 27).map (·.size) = some 10 := by kernel_rfl
  have HZ := Lib.hid hz
  have HDL := Lib.hid hdl
  have HDN := Lib.hid hdn
  have hbig := hz.len.2
  clear hck hz hdl hdn
  go_enter Try.func16, Try.ntmps16
  go_wp2_with fail
  refine calls_world (fun w0 e0 => ?_)
  obtain ⟨g1, hb0, hs0⟩ := one_alloc e0
  clear e0
  refine (HK.out _ hb0).mono ?_
  rintro e w1 ⟨rfl, hb1⟩
  have hD := blk_on g1 hb1
  have HB1 := Lib.hid (hb0.trans (hb1.mono (by omega)))
  have HS1 := Lib.hid (show w.heap.size + 1 ≤ w1.heap.size by have := hb1.size; omega)
  have hcz : w1.cell? ⟨w.heap.size, 1, none⟩ = some (.slice az zs.length cz) := (cell_of_block hD 1).trans rfl
  clear g1 hb0 hs0 hb1 hD
  go_wp2
  go_loopw [4, 5, 6, 7, 8, 9, 10, 19] (fun l _ _ _ _ _ _ i wr => ∃ (j : Nat) (al : Option Addr) (cl : Nat) (fs : List Fd), j ≤ zs.length ∧ i = .int .i64 j ∧ fs = frames (zs.take j) ∧ l = .slice al fs.length cl ∧ wr.ownsRow (w.heap.size + 1) 77 7 (.slice al fs.length cl) fs.length (fcells fs) ∧ Below w.heap.size w wr ∧ w.heap.size + 1 ≤ wr.heap.size) (fun _ _ _ _ _ _ _ i _ => zs.length - (intOf i).toNat)
  case atStart => exact ⟨0, none, 0, [], by omega, rfl, by rw [List.take_zero]; rfl, rfl, World.ownsRow_nil _ _ _ _, HB1.out, HS1.out⟩
  case round =>
    obtain ⟨j, al, cl, fs, hj, rfl, hfs, rfl, hown, hbr, hsr⟩ := hrel
    by_cases hlt : j < zs.length
    · have hzj : zs[j]? = some zs[j] := List.getElem?_eq_getElem hlt
      have hsn := frames_snoc zs j zs[j] hzj
      have hml := HDL.out zs[j] (List.getElem_mem _)
      obtain ⟨b, off, rfl, hblt, vd, hbt, hr⟩ := (HZ.out.below hbr).at j zs[j] hzj
      generalize zs[j] = z at hzj hsn hml hbt hr
      obtain ⟨a2, c2, rfl⟩ := hbt.open
      have HSN := Lib.hid hsn
      have HBT := Lib.hid hbt
      have HML := Lib.hid hml
      have HFS := Lib.hid hfs
      have HFL := Lib.hid (show fs.length ≤ 5000000 by
        rw [hfs]
        have h1 := frames_len (zs.take j) 65536 (fun z hz => HDL.out z (List.mem_of_mem_take hz))
        have h2 := HDN.out
        have h3 : (zs.take j).length ≤ 64 := by rw [List.length_take]; omega
        have h4 : (zs.take j).length * (65536 + 1) ≤ 64 * (65536 + 1) := Nat.mul_le_mul_right _ h3
        omega)
      have i1 : (0 : Int) ≤ (j : Int) := by omega
      have i2 : (j : Int) < (zs.length : Int) := by omega
      have hi3 : (Try.prog.info? 52).map (·.size) = some 3 := by kernel_rfl
      clear hzj hsn hml hbt hfs hblt
      by_cases hst : z.st = 4
      · have hzf : zoneFs j z = [] := by unfold zoneFs; rw [if_pos hst]
        have HZF := Lib.hid hzf
        rw [hst] at hr
        clear hst hzf
        have hbw := (Below.refl wr.heap.size wr).alloc (Nat.le_refl _) (.cells #[.int .i64 4, .slice a2 z.data.length c2, .int .i64 z.lasts] 52)
        have HBW := Lib.hid hbw
        clear hbw
        go_wp2_with (refine wpList_load_at (by rfl) 52 (.tmp 22) rfl b (off + j * 3) (by rfl) [.int .i64 4, .slice a2 z.data.length c2, .int .i64 z.lasts] _ hr Try.underlying52 rfl hi3 ?_)
        go_roundw
        case rel => exact ⟨j + 1, al, cl, fs, by omega, congrArg (Value.int .i64) (by omega), by rw [HSN.out, HZF.out, List.append_nil]; exact HFS.out, rfl, owns_below hown HBW.out, hbr.trans (HBW.out.mono hbr.size), Nat.le_trans hsr HBW.out.size⟩
        case measure =>
          show zs.length - ((j : Int) + 1).toNat < zs.length - (j : Int).toNat
          omega
      · have hst2 : (z.st == 4) = false := by simpa using hst
        have hzf : zoneFs j z = (scanB z.data).map fun p => ⟨p.1, j, p.2⟩ := by unfold zoneFs; rw [if_neg hst]
        have HZF := Lib.hid hzf
        clear hst hzf
        go_wp2_with (refine wpList_load_at (by rfl) 52 (.tmp 22) rfl b (off + j * 3) (by rfl) [.int .i64 z.st, .slice a2 z.data.length c2, .int .i64 z.lasts] _ hr Try.underlying52 rfl hi3 ?_)
        refine calls_world (fun wc ec => ?_)
        obtain ⟨gz, hbc, hsc⟩ := one_alloc ec
        clear ec
        refine (scan_any a2 c2 z.data (by have := HML.out; omega) wc (HBT.out.below hbc)).mono ?_
        rintro e w3 ⟨⟨vh, vp, rfl, hoh, hop⟩, hb3⟩
        obtain ⟨ah, ch, rfl, _⟩ := own_rw hoh
        obtain ⟨ap, cp, rfl, _⟩ := own_rw hop
        have hscl : (scanB z.data).length ≤ 65537 := by
          have := scan_len (z.data.length + 1) z.data 0
          have := HML.out
          unfold scanB
          omega
        obtain ⟨sc, hscan⟩ : ∃ sc, scanB z.data = sc := ⟨_, rfl⟩
        rw [hscan] at hoh hop hscl HZF ⊢
        have hown3 := owns_below (owns_below hown hbc) hb3
        have hob : ∀ g, Value.ownBlock (.slice al fs.length cl) = some g → g < wc.heap.size := fun g e => by have := (ownBlock_lt hown e).2; omega
        have HOB := Lib.hid hob
        have HOH := Lib.hid hoh
        have HOP := Lib.hid hop
        have HO3 := Lib.hid hown3
        have HB3 := Lib.hid (hbr.trans ((hbc.mono hbr.size).trans (hb3.mono (Nat.le_trans hbr.size hbc.size))))
        have HS3 := Lib.hid (show wc.heap.size ≤ w3.heap.size ∧ w.heap.size + 1 ≤ wc.heap.size from ⟨hb3.size, by omega⟩)
        obtain ⟨zf, hzf⟩ : ∃ zf : List Fd, zf = sc.map fun p => ⟨p.1, j, p.2⟩ := ⟨_, rfl⟩
        have hzl : zf.length = sc.length := by rw [hzf, List.length_map]
        have HZL := Lib.hid hzl
        have HZE := Lib.hid hzf
        have HSC := Lib.hid hscl
        clear hoh hop hown3 hob gz hbc hsc hb3 hscan hown hbr hsr hzf hzl hscl hr
        go_wp2
        go_loopw [4, 9, 10, 35] (fun l _ _ k wr => ∃ (q : Nat) (al : Option Addr) (cl : Nat), q ≤ sc.length ∧ k = .int .i64 q ∧ l = .slice al (fs.length + q) cl ∧ wr.ownsRow (w.heap.size + 1) 77 7 (.slice al (fs.length + q) cl) (fs.length + q) (fcells (fs ++ zf.take q)) ∧
          (∀ g, Value.ownBlock (.slice al (fs.length + q) cl) = some g → g < wc.heap.size ∨ w3.heap.size ≤ g) ∧ (∀ k, wc.heap.size ≤ k → k < w3.heap.size → wr.heap[k]? = w3.heap[k]?) ∧ Below w.heap.size w wr ∧ w3.heap.size ≤ wr.heap.size) (fun _ _ _ k _ => sc.length - (intOf k).toNat)
        case atStart => exact ⟨0, al, cl, by omega, rfl, rfl, by simpa using HO3.out, fun g e => .inl (HOB.out g e), fun _ _ _ => rfl, HB3.out, Nat.le_refl _⟩
        case round =>
          obtain ⟨q, al, cl, hq, rfl, rfl, hown, hob, hrest, hbr, hsr⟩ := hrel
          by_cases hqt : q < sc.length
          · have hyq : sc[q]? = some sc[q] := List.getElem?_eq_getElem hqt
            have hoh := own_in HOH.out (Nat.le_refl _) hrest
            have hop := own_in HOP.out (Nat.le_refl _) hrest
            obtain ⟨bh, oh, rfl, hbhl, hrh⟩ := (own_rw hoh).where (by omega)
            obtain ⟨bp, op, rfl, hbpl, hrp⟩ := (own_rw hop).where (by omega)
            have HBP := Lib.hid (show wc.heap.size ≤ bp ∧ bp < w3.heap.size from ownBlock_lt HOP.out rfl)
            have HOL := Lib.hid (show ∀ g, Value.ownBlock (.slice al (fs.length + q) cl) = some g → g < wr.heap.size from fun g e => (ownBlock_lt hown e).2)
            have hzq : zf.take (q + 1) = zf.take q ++ [⟨sc[q].1, j, sc[q].2⟩] := by
              rw [HZE.out, List.take_add_one, List.getElem?_map, hyq]
              rfl
            have hr5 := range_part hrh (hcells_at sc q sc[q] hyq)
            have hcp := hrp q (.int .i64 (sc[q].2 : Int)) (by simp [pcells, hyq])
            generalize sc[q] = y at hyq hzq hr5 hcp
            have HZQ := Lib.hid hzq
            have HR5 := Lib.hid hr5
            have HOW := Lib.hid hown
            have HBR := Lib.hid hbr
            have HRE := Lib.hid hrest
            have HSR := Lib.hid hsr
            have HOQ := Lib.hid hob
            have n1 : (0 : Int) ≤ (q : Int) := by omega
            have n2 : (q : Int) < (sc.length : Int) := by omega
            have hi5 : (Try.prog.info? 46).map (·.size) = some 5 := by kernel_rfl
            have hrl : wr.rangeAt bh (oh + q * 5) [.int .i64 y.1.kind, .int .i64 y.1.lba, .int .i64 y.1.len, .int .i64 y.1.seq, .int .i64 y.1.epoch] := hr5
            clear hyq hzq hr5 hown hbr hrest hsr hob hoh hop hrh hrp hbhl
            go_wp2_with (refine wpList_load_at (by rfl) 46 (.tmp 38) rfl bh (oh + q * 5) (by rfl) _ _ hrl Try.underlying46 rfl hi5 ?_)
            clear hrl
            refine code_world (fun w5 e5 => ?_)
            obtain ⟨g5, hb5, hs5⟩ := one_alloc e5
            clear e5
            have d0 : ∀ wz, Same2 wr.heap.size bp w5 wz → wz.cell? ⟨wr.heap.size, 0, none⟩ = some (.int .i64 y.1.kind) := fun wz hz => (World.cell?_of_block (a := ⟨wr.heap.size, 0, none⟩) hz.1).trans ((cell_of_block g5 0).trans rfl)
            have d1 : ∀ wz, Same2 wr.heap.size bp w5 wz → wz.cell? ⟨wr.heap.size, 1, none⟩ = some (.int .i64 y.1.lba) := fun wz hz => (World.cell?_of_block (a := ⟨wr.heap.size, 1, none⟩) hz.1).trans ((cell_of_block g5 1).trans rfl)
            have d2 : ∀ wz, Same2 wr.heap.size bp w5 wz → wz.cell? ⟨wr.heap.size, 2, none⟩ = some (.int .i64 y.1.len) := fun wz hz => (World.cell?_of_block (a := ⟨wr.heap.size, 2, none⟩) hz.1).trans ((cell_of_block g5 2).trans rfl)
            have d3 : ∀ wz, Same2 wr.heap.size bp w5 wz → wz.cell? ⟨wr.heap.size, 3, none⟩ = some (.int .i64 y.1.seq) := fun wz hz => (World.cell?_of_block (a := ⟨wr.heap.size, 3, none⟩) hz.1).trans ((cell_of_block g5 3).trans rfl)
            have d4 : ∀ wz, Same2 wr.heap.size bp w5 wz → wz.cell? ⟨wr.heap.size, 4, none⟩ = some (.int .i64 y.1.epoch) := fun wz hz => (World.cell?_of_block (a := ⟨wr.heap.size, 4, none⟩) hz.1).trans ((cell_of_block g5 4).trans rfl)
            have d5 : ∀ wz, Same2 wr.heap.size bp w5 wz → wz.cell? ⟨bp, op + q, none⟩ = some (.int .i64 (y.2 : Int)) := fun wz hz => (World.cell?_of_block (a := ⟨bp, op + q, none⟩) hz.2).trans ((hb5.cell (p := ⟨bp, op + q, none⟩) hbpl).trans hcp)
            have ownd : w5.drew.ownsRow (w.heap.size + 1) 77 7 (.slice al (fs.length + q) cl) (fs.length + q) (fcells (fs ++ zf.take q)) := owns_below HOW.out (show Below wr.heap.size wr w5.drew from hb5.drew)
            have HB5 := Lib.hid hb5
            have HS5 := Lib.hid hs5
            have hfl := HFL.out
            have hscl := HSC.out
            have hAl := block_lt g5
            have hBl : bp < w5.heap.size := by omega
            clear g5 hb5 hs5 hcp hbpl
            refine wp_region_noPanic ?_
            refine wp_region_till (T := (Same2 wr.heap.size bp w5)) 10 (by kernel_rfl) ?_ (fun hTill => ?_)
            · exact ⟨rfl, rfl⟩
            refine takeM 0 (v := ?_) rfl (by kernel_rfl) (by kernel_rfl) (by kernel_rfl) (by kernel_rfl) (fun _ _ _ h => h) (Or.inl ⟨by rfl, ?_⟩) (by assumption) (fun hTill => ?_)
            rotate_left
            · (intro w hSw; go_simp; try with_reducible rfl)
            (try simp only [Act.put, List.setIfInBounds_toArray, List.set_cons_zero, List.set_cons_succ])
            refine takeT 1 (v := ?_) rfl (by kernel_rfl) (by kernel_rfl) (by kernel_rfl) (by kernel_rfl) (by kernel_rfl) (by kernel_rfl) (fun _ _ _ h => h) (Or.inl ⟨by rfl, ?_⟩) (by assumption) (fun hTill => ?_)
            rotate_left
            · (intro w hSw; go_simp; try with_reducible rfl)
            (try simp only [Act.put, List.setIfInBounds_toArray, List.set_cons_zero, List.set_cons_succ])
            refine takeM 2 (v := ?_) rfl (by kernel_rfl) (by kernel_rfl) (by kernel_rfl) (by kernel_rfl) (fun _ _ _ h => h) (Or.inl ⟨by rfl, ?_⟩) (by assumption) (fun hTill => ?_)
            rotate_left
            · (intro w hSw; go_simp; try with_reducible rfl)
            (try simp only [Act.put, List.setIfInBounds_toArray, List.set_cons_zero, List.set_cons_succ])
            refine takeM 3 (v := ?_) rfl (by kernel_rfl) (by kernel_rfl) (by kernel_rfl) (by kernel_rfl) (fun _ _ _ h => h) (Or.inl ⟨by rfl, ?_⟩) (by assumption) (fun hTill => ?_)
            rotate_left
            · (intro w hSw; go_simp; try with_reducible rfl)
            (try simp only [Act.put, List.setIfInBounds_toArray, List.set_cons_zero, List.set_cons_succ])
            refine takeM 4 (v := ?_) rfl (by kernel_rfl) (by kernel_rfl) (by kernel_rfl) (by kernel_rfl) (fun _ _ _ h => h) (Or.inl ⟨by rfl, ?_⟩) (by assumption) (fun hTill => ?_)
            rotate_left
            · (intro w hSw; go_simp; try with_reducible rfl)
            (try simp only [Act.put, List.setIfInBounds_toArray, List.set_cons_zero, List.set_cons_succ])
            refine takeM 5 (v := ?_) rfl (by kernel_rfl) (by kernel_rfl) (by kernel_rfl) (by kernel_rfl) (fun _ _ _ h => h) (Or.inl ⟨by rfl, ?_⟩) (by assumption) (fun hTill => ?_)
            rotate_left
            · (intro w hSw; go_simp; try with_reducible rfl)
            (try simp only [Act.put, List.setIfInBounds_toArray, List.set_cons_zero, List.set_cons_succ])
            refine takeT 6 (v := ?_) rfl (by kernel_rfl) (by kernel_rfl) (by kernel_rfl) (by kernel_rfl) (by kernel_rfl) (by kernel_rfl) (fun _ _ _ h => h) (Or.inl ⟨by rfl, ?_⟩) (by assumption) (fun hTill => ?_)
            rotate_left
            · (intro w hSw; go_simp; try with_reducible rfl)
            (try simp only [Act.put, List.setIfInBounds_toArray, List.set_cons_zero, List.set_cons_succ])
            refine takeM 7 (v := ?_) rfl (by kernel_rfl) (by kernel_rfl) (by kernel_rfl) (by kernel_rfl) (fun _ _ _ h => h) (Or.inl ⟨by rfl, ?_⟩) (by assumption) (fun hTill => ?_)
            rotate_left
            · (intro w hSw; go_simp; try with_reducible rfl)
            (try simp only [Act.put, List.setIfInBounds_toArray, List.set_cons_zero, List.set_cons_succ])
            refine stepM 8 rfl (by kernel_rfl) (fun K hK => ?_)
            go_simp
            refine hK.out _ _ ?_ (fun hTill => ?_)
            · exact fun _ => same2_alloc ⟨rfl, rfl⟩ hAl hBl _
            clear hK K
            (try simp only [Act.put, List.setIfInBounds_toArray, List.set_cons_zero, List.set_cons_succ])
            refine stepM 9 rfl (by kernel_rfl) (fun K hK => ?_)
            (rw [if_pos (by rfl)]; obtain ⟨v8, w8, hr8, own8, hg8, _, hl8⟩ := run_append_own_at (P := Try.prog) (w5.drew.alloc (.cells #[.int .i64 y.1.kind, .int .i64 y.1.lba, .int .i64 y.1.len, .int .i64 y.1.seq, .int .i64 y.1.epoch, .int .i64 (j : Int), .int .i64 (y.2 : Int)] 77)) (w.heap.size + 1) 73 73 77 i0 _ 7 56 Try.underlying73 hi hz0 hz1 hz2 rfl (by decide) (.slice al (fs.length + q) cl) (fs.length + q) (fcells (fs ++ zf.take q)) (owns_below ownd (one_alloc rfl).2.1) ⟨w5.heap.size, 0, none⟩ 1 1 (encF ⟨y.1, j, y.2⟩) (by rfl) (row7 (heap_alloc_new w5.drew _)) (encF_one _) (by unfold maxLen; omega) (by omega) (by have := HB5.out.size; have := HSR.out; have := HS3.out; simp; omega); obtain ⟨a8, c8, rfl, _⟩ := own_rw own8; refine Lib.wp_append_run _ (.tmp 40) (.tmp 48) 73 73 (by rfl) _ _ (by rfl) (by rfl) _ w8 hr8 ?_)
            refine hK.out _ _ ?_ (fun hTill => ?_)
            · exact fun _ => same2_grown (same2_alloc (W := w5.drew) ⟨rfl, rfl⟩ hAl hBl _) hg8 hAl hBl (fun e => by have := HOL.out _ e; omega) (fun e => by have := HOQ.out _ e; have := HBP.out; omega)
            clear hK K
            (try simp only [Act.put, List.setIfInBounds_toArray, List.set_cons_zero, List.set_cons_succ])
            refine stepM 10 rfl (by kernel_rfl) (fun K hK => ?_)
            go_simp
            refine hK.out _ _ ?_ (fun hTill => ?_)
            · exact till_over (by kernel_rfl)
            clear hK K
            (try simp only [Act.put, List.setIfInBounds_toArray, List.set_cons_zero, List.set_cons_succ])
            refine doneM (by kernel_rfl) ?_ _
            refine NoPanic.normal ?_
            have hbx := HB5.out.trans (((below_self_drew w5).alloc (Nat.le_refl _) (.cells #[.int .i64 y.1.kind, .int .i64 y.1.lba, .int .i64 y.1.len, .int .i64 y.1.seq, .int .i64 y.1.epoch, .int .i64 (j : Int), .int .i64 (y.2 : Int)] 77)).mono (by have := HB5.out.size; omega))
            have HOW8 := Lib.hid own8
            have HOB8 := Lib.hid (show ∀ g, Value.ownBlock (.slice a8 (fs.length + q + 1) c8) = some g → g < wc.heap.size ∨ w3.heap.size ≤ g from fun g e => by
              rcases hl8 with h8 | h8
              · exact HOQ.out g (h8 ▸ e)
              · rw [h8] at e
                have h9 := Option.some.inj e
                right
                have h10 := HSR.out
                have h11 := hbx.size
                omega)
            have HRE8 := Lib.hid (show ∀ k, wc.heap.size ≤ k → k < w3.heap.size → w8.heap[k]? = w3.heap[k]? from fun k h1 h2 => by
              have hk : k < wr.heap.size := by have := HSR.out; omega
              refine (hg8.block k (Nat.lt_of_lt_of_le hk hbx.size) (fun e => by rcases HOQ.out k e.symm with h | h <;> omega)).trans ((hbx.block k hk).trans (HRE.out k h1 h2)))
            have HB8 := Lib.hid ((HBR.out.trans (hbx.mono HBR.out.size)).grown hg8 (HBR.out.trans (hbx.mono HBR.out.size)).size (fun k e => by have := (ownd.lt k e).1; omega))
            have HS8 := Lib.hid (show w3.heap.size ≤ w8.heap.size from Nat.le_trans HSR.out (Nat.le_trans hbx.size hg8.size))
            clear hbx hl8 hg8 own8 hr8 ownd d0 d1 d2 d3 d4 d5
            go_wp2
            go_roundw
            case rel => exact ⟨q + 1, a8, c8, by omega, congrArg (Value.int .i64) (by omega), rfl, by rw [HZQ.out, ← List.append_assoc, fcells_snoc]; exact HOW8.out, HOB8.out, HRE8.out, HB8.out, HS8.out⟩
            case measure =>
              show sc.length - ((q : Int) + 1).toNat < sc.length - (q : Int).toNat
              omega
          · have hqe : q = sc.length := by omega
            subst hqe
            have hn2 : decide ((sc.length : Int) < (sc.length : Int)) = false := decide_eq_false (by omega)
            have htk : zf.take sc.length = zf := List.take_of_length_le (by rw [HZL.out]; omega)
            rw [htk] at hown
            have HOW := Lib.hid hown
            have HBR := Lib.hid hbr
            have HSR := Lib.hid hsr
            clear hown hbr hrest hsr hob htk
            go_wp2
            go_roundw
            case rel =>
              have hln : (fs ++ zf).length = fs.length + sc.length := by rw [List.length_append, HZL.out]
              refine ⟨j + 1, al, cl, fs ++ zf, by omega, congrArg (Value.int .i64) (by omega), ?_, by rw [hln], by rw [hln]; exact HOW.out, HBR.out, by have := HSR.out; have := HS3.out; omega⟩
              rw [HSN.out, HZF.out, HFS.out, HZE.out]
            case measure =>
              show zs.length - ((j : Int) + 1).toNat < zs.length - (j : Int).toNat
              omega
    · have hje : j = zs.length := by omega
      subst hje
      have hn2 : decide ((zs.length : Int) < (zs.length : Int)) = false := decide_eq_false (by omega)
      rw [List.take_length] at hfs
      have hfl : fs.length ≤ 5000000 := by
        rw [hfs]
        have h1 := frames_len zs 65536 HDL.out
        have h2 := HDN.out
        have h4 : zs.length * (65536 + 1) ≤ 64 * (65536 + 1) := Nat.mul_le_mul_right _ h2
        omega
      have HFS := Lib.hid hfs
      have HOW := Lib.hid hown
      have HBR := Lib.hid hbr
      have HSR := Lib.hid hsr
      clear hown hbr hsr hfs
      go_wp2_with fail
      refine (sort_any (w.heap.size + 1) al cl fs wr (by omega) HSR.out HOW.out).mono ?_
      rintro e ws ⟨rfl, ⟨l', hperm, hord, hll, hrw⟩, hbs⟩
      have HRW := Lib.hid hrw
      have HLL := Lib.hid hll
      have HPE := Lib.hid hperm
      have HOR := Lib.hid hord
      have HBS := Lib.hid (HBR.out.trans (hbs.mono (by omega)))
      clear hperm hord hll hrw hbs
      go_wp2
      go_loopw [2, 12, 56] (fun vo _ i wr => ∃ (q : Nat) (ao : Option Addr) (co : Nat), q ≤ fs.length ∧ i = .int .i64 q ∧ vo = .slice ao q co ∧ wr.ownsRow ws.heap.size 48 7 (.slice ao q co) q (fcells (l'.take q)) ∧ Below ws.heap.size ws wr) (fun _ _ i _ => fs.length - (intOf i).toNat)
      case atStart => exact ⟨0, none, 0, by omega, rfl, rfl, by rw [List.take_zero]; exact World.ownsRow_nil _ _ _ _, Below.refl _ _⟩
      case round =>
        obtain ⟨q, ao, co, hq, rfl, rfl, hown, hbq⟩ := hrel
        by_cases hqt : q < fs.length
        · have hql : q < l'.length := by rw [HLL.out]; exact hqt
          have hyq : l'[q]? = some l'[q] := List.getElem?_eq_getElem hql
          obtain ⟨bl, ol, rfl, hbll, hrl0⟩ := (HRW.out.below hbq).where (by omega)
          have htk : l'.take (q + 1) = l'.take q ++ [l'[q]] := by rw [List.take_add_one, hyq]; rfl
          have hr7 := range_part hrl0 (fcells_at l' q l'[q] hyq)
          generalize l'[q] = y at hyq htk hr7
          have HTK := Lib.hid htk
          have HBQ := Lib.hid hbq
          have n1 : (0 : Int) ≤ (q : Int) := by omega
          have n2 : (q : Int) < (fs.length : Int) := by omega
          have hi7 : (Try.prog.info? 77).map (·.size) = some 7 := by kernel_rfl
          simp only [encF] at hr7
          have X := two_alloc (w := wr) (o1 := .cells #[.int .i64 y.hd.kind, .int .i64 y.hd.lba, .int .i64 y.hd.len, .int .i64 y.hd.seq, .int .i64 y.hd.epoch, .int .i64 (y.zone : Int), .int .i64 (y.at_ : Int)] 77) (o2 := .cells #[.int .i64 y.hd.kind, .int .i64 y.hd.lba, .int .i64 y.hd.len, .int .i64 y.hd.seq, .int .i64 y.hd.epoch, .int .i64 (y.zone : Int), .int .i64 (y.at_ : Int)] 48) rfl
          have hsrc := rw_block 7 (cs := encF y) X.2.1 1 rfl (by unfold maxLen; omega)
          have hown2 := owns_below hown X.2.2.1
          have HX := Lib.hid X.2.2.1
          clear hyq htk hrl0 hown hbq X hbll hql
          go_wp2_with (first
            | refine wpList_load_at (by rfl) 77 (.tmp 58) rfl bl (ol + q * 7) (by rfl) _ _ hr7 Try.underlying77 rfl hi7 ?_
            | (at_builtin
               refine wpList_append_rw _ rfl (.tmp 60) (.tmp 62) 41 rfl ws.heap.size 48 k0 _ 7 56 Try.underlying41 ki kz0 kz1 kz2 rfl (by decide) (.slice ao q co) q (fcells (l'.take q)) rfl hown2 _ 1 (encF y) rfl hsrc (encF_one y) (by unfold maxLen; omega) (by omega) (Nat.le_trans HBQ.out.size HX.out.size) ?_
               intro v9 w9 hown9 hg9
               obtain ⟨a9, c9, rfl, _⟩ := own_rw hown9
               have HB9 := Lib.hid ((HBQ.out.trans (HX.out.mono HBQ.out.size)).grown hg9 (HBQ.out.trans (HX.out.mono HBQ.out.size)).size (fun k e => (hown2.lt k e).1))
               have HO9 := Lib.hid hown9
               clear hown9 hown2 hsrc hg9))
          go_roundw
          case rel => exact ⟨q + 1, a9, c9, by omega, congrArg (Value.int .i64) (by omega), rfl, by rw [HTK.out, fcells_snoc]; exact HO9.out, HB9.out⟩
          case measure =>
            show fs.length - ((q : Int) + 1).toNat < fs.length - (q : Int).toNat
            omega
        · have hqe : q = fs.length := by omega
          subst hqe
          have hn3 : decide ((fs.length : Int) < (fs.length : Int)) = false := decide_eq_false (by omega)
          rw [List.take_of_length_le (by rw [HLL.out]; omega)] at hown
          have HOW := Lib.hid hown
          have HBQ := Lib.hid hbq
          clear hown hbq
          go_wp2
          refine bodyPost_ret (results_tmp2 rfl _ _ _) rfl ?_
          refine ⟨⟨ao, co, l', by rw [HLL.out]; rfl, ?_, HOR.out, ?_⟩, HBS.out.trans (HBQ.out.mono HBS.out.size)⟩
          · rw [← HFS.out]
            exact HPE.out
          · rw [HLL.out]
            exact own_rw HOW.out
end Go.Proofs.Ytdiokmaomglefaa
