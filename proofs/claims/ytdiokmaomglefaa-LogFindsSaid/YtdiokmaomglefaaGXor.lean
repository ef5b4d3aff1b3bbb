/- stream.Xor of a text of 1 to 64 bytes. -/
import Derived.Test.YtdiokmaomglefaaMO
import Derived.Test.YtdiokmaomglefaaGPolySum
import Derived.Lib.AppendZeros
import Derived.Test.YtdiokmaomglefaaMT
import Derived.Laws.MakeOwn
import Derived.Lib.MinMax
import Derived.Test.YtdiokmaomglefaaMP
import Derived.Maps.AppendAt
namespace Go.Proofs.Ytdiokmaomglefaa
open Go Go.RowKit Go.Shelf
attribute [local go_sem] Oper.semAt_some

theorem bits_u8_byte (o : BinOp) (x y : Int) : ∃ b : UInt8, bits o .u8 x y = (b.toNat : Int) := by
  obtain ⟨b, hb⟩ := bv_wrap (match o with | .and => BitVec.ofInt 8 x &&& BitVec.ofInt 8 y | .or => BitVec.ofInt 8 x ||| BitVec.ofInt 8 y | .xor => BitVec.ofInt 8 x ^^^ BitVec.ofInt 8 y | _ => BitVec.ofInt 8 x &&& ~~~BitVec.ofInt 8 y).toNat
  refine ⟨b, ?_⟩
  have hb' : Value.int .u8 (bits o .u8 x y) = .int .u8 (b.toNat : Int) := hb
  injection hb'
theorem own_same {w w' : World} {B k sz g n cap : Nat} {e : TypeId} {xs : List Value} (h : w.ownsRow B e sz (.slice (some ⟨g, 0, none⟩) n cap) k xs) (hg : w'.heap[g]? = w.heap[g]?) : w'.ownsRow B e sz (.slice (some ⟨g, 0, none⟩) n cap) k xs := by
  refine ⟨h.1, ?_⟩
  rcases h.2 with h0 | ⟨g', cap', cur, hv, hB, hh, hr⟩
  · exact Or.inl h0
  · have : g' = g := by cases hv; rfl
    subst this
    exact Or.inr ⟨g', cap', cur, hv, hB, hg.trans hh, hr⟩
set_option linter.unusedSimpArgs false in
set_option maxRecDepth 100000 in
set_option maxHeartbeats 4000000 in
theorem xor_any (K N : List UInt8) (hK : K.length = 32) (hN : N.length = 12) (v : Value) (l : List UInt8) (hl1 : 1 ≤ l.length) (hl2 : l.length ≤ 64) (w : World) (h : Bt w v l) :
    Calls Try.prog 61 #[.agg (K.map bv).toArray, .int .u32 1, .agg (N.map bv).toArray, v] w fun e w' => (∃ (v' : Value) (l' : List UInt8), l'.length = l.length ∧ e = .returned (.tuple #[v', .int .i64 0]) ∧ w'.ownsRow w.heap.size 5 1 v' l'.length (l'.map bv)) ∧ Below w.heap.size w w' := by
  obtain ⟨av, cv, rfl, _, hlcv, hcvm, _, hwh⟩ := id h
  obtain ⟨tb, off, rfl, htb, hcell⟩ := hwh (by rintro rfl; simp at hl1)
  clear hwh
  have HK := Lib.hid hK
  have HNN := Lib.hid hN
  have H := Lib.hid h
  clear h hK hN
  obtain ⟨i0, hi, hz0, hz1, hz2⟩ := info_parts info_u8
  obtain ⟨w3, hw3⟩ : ∃ w3, w3 = ((w.alloc (.cells (K.map bv).toArray 55)).alloc (.cells (N.map bv).toArray 83)).alloc (.cells #[.slice (some ⟨tb, off, none⟩) l.length cv] 24) := ⟨_, rfl⟩
  obtain ⟨g1, g2, g3, hb3, hs3⟩ := three_alloc hw3
  obtain ⟨wm, hmk, hmo, hmg⟩ := run_makeSlice_owned (P := Try.prog) w3 w3.heap.size 24 5 i0 (.int .u8 0) 1 Try.underlying24 hi hz0 hz1 .i64 .i64 l.length (by omega) (by rw [hz2]; omega) (by unfold maxLen; omega) (Nat.le_refl _)
  rw [hs3, hw3] at hmk
  rw [hs3] at hmo
  have hgm : ∀ k, k < w3.heap.size → wm.heap[k]? = w3.heap[k]? := fun k hk => hmg.block k hk (by simp)
  have hbm : Below w3.heap.size w3 wm := (Below.refl _ w3).grown hmg (Nat.le_refl _) (fun k e => by cases e)
  have G1 := Lib.hid (blk_on g1 hbm)
  have G2 := Lib.hid (blk_on g2 hbm)
  have G3 := Lib.hid (blk_on g3 hbm)
  have HBM := Lib.hid (hb3.trans (hbm.mono hb3.size))
  have HSM := Lib.hid (show w.heap.size + 3 < wm.heap.size from (hmo.lt _ rfl).2)
  have HMO := Lib.hid hmo
  have hc7 : ∀ o, (wm.alloc o).cell? ⟨w.heap.size + 1 + 1, 0, none⟩ = some (.slice (some ⟨tb, off, none⟩) l.length cv) := fun o => (World.cell?_of_block (a := ⟨w.heap.size + 1 + 1, 0, none⟩) (show (wm.alloc o).heap[w.heap.size + 1 + 1]? = wm.heap[w.heap.size + 1 + 1]? from heap_alloc_old wm o _ (by have := hbm.size; omega))).trans (cell_of_block G3.out 0)
  have r4 : ∀ o, (wm.alloc o).rangeAt w.heap.size 0 (K.map bv) := fun o => range_below (range_of_block G1.out) ((Below.refl _ wm).alloc (Nat.le_refl _) o) (by have := HSM.out; omega)
  have r6 : ∀ o, (wm.alloc o).rangeAt (w.heap.size + 1) 0 (N.map bv) := fun o => range_below (range_of_block G2.out) ((Below.refl _ wm).alloc (Nat.le_refl _) o) (by have := HSM.out; omega)
  have hi32 : (Try.prog.info? 55).map (·.size) = some (K.map bv).length := by rw [List.length_map, HK.out]; kernel_rfl
  have hi12 : (Try.prog.info? 83).map (·.size) = some (N.map bv).length := by rw [List.length_map, HNN.out]; kernel_rfl
  have hne : ((l.length : Int) == 0) = false := by rw [beq_eq_false_iff_ne]; omega
  clear g1 g2 g3 hb3 hbm hgm hmg hmo hs3 hw3
  refine (callsIn_wide (n := 3)).1 ?_
  refine callsIn_of_wp_marks Try.func61 rfl trivial ?_ rfl
  simp only [Try.ntmps61, List.size_toArray, List.length_cons, List.length_nil, Nat.reduceAdd, Nat.reduceSub, Array.replicate_succ, Array.replicate_zero, List.push_toArray, List.append_toArray, List.nil_append, List.cons_append]
  gi_wp2_with (first
    | refine wpListIn_load_at rfl 55 (.tmp 4) rfl w.heap.size 0 rfl (K.map bv) _ (r4 _) Try.underlying55 rfl hi32 ?_
    | refine wpListIn_load_at rfl 83 (.tmp 6) rfl (w.heap.size + 1) 0 rfl (N.map bv) _ (r6 _) Try.underlying83 rfl hi12 ?_)
  refine ⟨trivial, callsIn_wide.2 ((blocks_any K N 1 _).mono ?_)⟩
  rintro e w5 ⟨rfl, hw5⟩
  gi_wp2
  clear hmk hc7 r4 r6
  obtain ⟨w6, hw6⟩ : ∃ w6, w6 = (((wm.alloc (.cells #[.slice (some ⟨w.heap.size + 3, 0, none⟩) 0 l.length] 24)).alloc (.cells (K.map bv).toArray 55)).alloc (.cells #[.int .u32 1] 119)).alloc (.cells (N.map bv).toArray 83) := ⟨_, rfl⟩
  rw [← hw6]
  obtain ⟨q0, q1, q2, q3, hb6, hs6⟩ := four_alloc' hw6
  clear hw6 hw5
  have b3 := blk_on G3.out hb6
  have HB6 := Lib.hid (HBM.out.trans (hb6.mono (by have := HSM.out; omega)))
  have ho6 := owns_below HMO.out hb6
  have Q0 := Lib.hid q0
  have O6 := Lib.hid ho6
  have HS6 := Lib.hid hs6
  have B3 := Lib.hid b3
  clear hb6 ho6 q0 hs6 b3
  refine wpIn_rangeFunc_once (encs := fun (x : B64) => #[.agg (x.1.map bv).toArray]) rfl (by decide) (gf := 96) rfl trivial (enters_of Try.func96 (by kernel_rfl) rfl)
    (fun li Jx W hbW hY => blocks1_once 2 (by decide) _ _ _ K N HK.out HNN.out 1 w6 q1 q2 q3 li Jx W hbW hY) (fun _ => rfl) 0
    (fun W => (∃ (l' : List UInt8), l'.length = l.length ∧ W.heap[wm.heap.size]? = some (.cells #[.slice (some ⟨w.heap.size + 3, 0, none⟩) l.length l.length] 24 (0, 0)) ∧ W.ownsRow (w.heap.size + 3) 5 1 (.slice (some ⟨w.heap.size + 3, 0, none⟩) l.length l.length) l.length (l'.map bv)) ∧ Below w.heap.size w W) ?_ ?_
  · intro x W1 hbW hsz
    have hi64 : (Try.prog.info? 144).map (·.size) = some 64 := by kernel_rfl
    have HSX := Lib.hid (show (x.1.map bv).toArray.size = 64 from by simpa using x.2)
    have hone := bytes_one x.1
    have gX := (one_alloc (w := W1) (o1 := .cells #[.int .u8 0, .int .u8 0, .int .u8 0, .int .u8 0, .int .u8 0, .int .u8 0, .int .u8 0, .int .u8 0, .int .u8 0, .int .u8 0, .int .u8 0, .int .u8 0, .int .u8 0, .int .u8 0, .int .u8 0, .int .u8 0, .int .u8 0, .int .u8 0, .int .u8 0, .int .u8 0, .int .u8 0, .int .u8 0, .int .u8 0, .int .u8 0, .int .u8 0, .int .u8 0, .int .u8 0, .int .u8 0, .int .u8 0, .int .u8 0, .int .u8 0, .int .u8 0, .int .u8 0, .int .u8 0, .int .u8 0, .int .u8 0, .int .u8 0, .int .u8 0, .int .u8 0, .int .u8 0, .int .u8 0, .int .u8 0, .int .u8 0, .int .u8 0, .int .u8 0, .int .u8 0, .int .u8 0, .int .u8 0, .int .u8 0, .int .u8 0, .int .u8 0, .int .u8 0, .int .u8 0, .int .u8 0, .int .u8 0, .int .u8 0, .int .u8 0, .int .u8 0, .int .u8 0, .int .u8 0, .int .u8 0, .int .u8 0, .int .u8 0, .int .u8 0] 144) rfl)
    gi_wp2_with (refine wpListIn_lay rfl 144 (.tmp 12) (.tmp 38) rfl W1.heap.size (x.1.map bv).toArray rfl rfl 144 _ gX.1 64 hi64 HSX.out rfl hone ?_; intro W2 hL2)
    have hold : ∀ k, k < W1.heap.size → W2.heap[k]? = W1.heap[k]? := fun k hk => (hL2.rest k (by omega)).trans (gX.2.1.block k hk)
    have hX2 := hL2.blk
    have hs2 : W2.heap.size = W1.heap.size + 1 := hL2.size.trans gX.2.2
    refine ⟨?_, ?_, fun o => ?_⟩
    · rw [hold _ hsz]
      exact Array.getElem?_eq_getElem hsz
    · rw [hold _ (by omega)]
    · have hsW := hbW.size
      have hne1 : W1.heap.size ≠ w6.heap.size + 1 := by omega
      obtain ⟨We, hWe⟩ : ∃ We, We = W2.putObj (w6.heap.size + 1) o := ⟨_, rfl⟩
      have hput : ∀ k, k ≠ w6.heap.size + 1 → We.heap[k]? = W2.heap[k]? := fun k hk => by rw [hWe]; exact World.putObj_heap_other hk
      have hlow : ∀ k, k < w6.heap.size → We.heap[k]? = w6.heap[k]? := fun k hk => (hput k (by omega)).trans ((hold k (by omega)).trans (hbW.block k hk))
      have b7 := (hlow (w.heap.size + 2) (block_lt B3.out)).trans B3.out
      have b11 := (hlow wm.heap.size (block_lt Q0.out)).trans Q0.out
      have bX := (hput _ hne1).trans hX2
      have hbe2 : Below w.heap.size w W2 := HB6.out.trans ((hbW.mono HB6.out.size).trans ((gX.2.1.mono (by have := HB6.out.size; omega)).trans (hL2.bel.mono (by have := HB6.out.size; omega))))
      have hbe : Below w.heap.size w We := by
        rw [hWe]
        exact hbe2.grown (grownBy_putObj' W2 _ o) hbe2.size (fun k e => by cases e; have := HB6.out.size; omega)
      rw [← hWe]
      have c7 : We.cell? ⟨w.heap.size + 1 + 1, 0, none⟩ = some (.slice (some ⟨tb, off, none⟩) l.length cv) := cell_of_block b7 0
      have c11 : We.cell? ⟨wm.heap.size, 0, none⟩ = some (.slice (some ⟨w.heap.size + 3, 0, none⟩) 0 l.length) := cell_of_block b11 0
      have hmin : min (64 : Int) (l.length : Int) = (l.length : Int) := by omega
      clear hL2 gX hone hWe hX2
      have own0 : We.ownsRow (w.heap.size + 3) 5 1 (.slice (some ⟨w.heap.size + 3, 0, none⟩) 0 l.length) 0 [] := own_same O6.out (hlow _ (by have := HS6.out; have := HSM.out; omega))
      have HO0 := Lib.hid own0
      have H7 := Lib.hid c7
      have HBE := Lib.hid hbe
      have HXb := Lib.hid bX
      have H11 := Lib.hid b11
      have HSE := Lib.hid (show W1.heap.size < We.heap.size ∧ w6.heap.size + 1 < W1.heap.size ∧ wm.heap.size < w6.heap.size ∧ w.heap.size + 3 < w6.heap.size ∧ w.heap.size + 3 < wm.heap.size from ⟨block_lt bX, hsz, block_lt Q0.out, (by have := HS6.out; have := HSM.out; omega), HSM.out⟩)
      gi_wp2
      clear own0 hbe bX b11 hlow hput hold hbe2 hs2 hsW hbW q1 q2 q3
      gi_loopw [14, 15, 58] (fun _ _ i wr => ∃ (j : Nat) (l' : List UInt8), j ≤ l.length ∧ l'.length = j ∧ i = .int .i64 j ∧ wr.heap[wm.heap.size]? = some (.cells #[.slice (some ⟨w.heap.size + 3, 0, none⟩) j l.length] 24 (0, 0)) ∧
        wr.ownsRow (w.heap.size + 3) 5 1 (.slice (some ⟨w.heap.size + 3, 0, none⟩) j l.length) j (l'.map bv) ∧ (∀ k, k < We.heap.size → k ≠ w.heap.size + 3 → k ≠ wm.heap.size → wr.heap[k]? = We.heap[k]?) ∧ Below w.heap.size w wr) (fun _ _ i _ => l.length - (intOf i).toNat)
      case atStart => exact ⟨0, [], by omega, rfl, rfl, H11.out, HO0.out, fun _ _ _ _ => rfl, HBE.out⟩
      case round =>
        obtain ⟨j, l', hj, hl', rfl, hr11, hown, hrest, hbr⟩ := hrel
        by_cases hlt : j < l.length
        · have hdj : decide ((j : Int) < (l.length : Int)) = true := decide_eq_true (by omega)
          have e1 : IntKind.i64.wrap ((j : Int) + 1) = (j : Int) + 1 := IntWalk.i64_in _ (by omega)
          have i1 : (0 : Int) ≤ (j : Int) := by omega
          have i2 : (j : Int) < (l.length : Int) := by omega
          have i3 : (j : Int) < 64 := by omega
          have ct : wr.cell? ⟨tb, off + j, none⟩ = some (bv (l[j]?.getD 0)) := (hbr.cell (p := ⟨tb, off + j, none⟩) htb).trans (hcell j hlt)
          have hbx := (hrest W1.heap.size HSE.out.1 (by have := HSE.out; omega) (by have := HSE.out; omega)).trans HXb.out
          obtain ⟨y, hy⟩ : ∃ y : UInt8, wr.cell? ⟨W1.heap.size, j, none⟩ = some (.int .u8 (y.toNat : Int)) := by
            refine ⟨x.1[j]'(by have := x.2; omega), ?_⟩
            rw [cell_of_block hbx j]
            have := x.2
            simp [bv, show j < x.1.length by omega]
          obtain ⟨z, hz⟩ : ∃ z, l[j]?.getD 0 = z := ⟨_, rfl⟩
          rw [hz] at ct
          have ct' : wr.cell? ⟨tb, off + j, none⟩ = some (.int .u8 (z.toNat : Int)) := ct
          have c11 : wr.cell? ⟨wm.heap.size, 0, none⟩ = some (.slice (some ⟨w.heap.size + 3, 0, none⟩) j l.length) := cell_of_block hr11 0
          have hf11 := thawed hr11 0
          clear ct hz
          have gx : ∀ wz, Same2 wm.heap.size W1.heap.size wr wz → wz.cell? ⟨wm.heap.size, 0, none⟩ = some (.slice (some ⟨w.heap.size + 3, 0, none⟩) j l.length) := fun wz hw => (World.cell?_of_block (a := ⟨wm.heap.size, 0, none⟩) hw.1).trans c11
          have gy : ∀ wz, Same2 wm.heap.size W1.heap.size wr wz → wz.cell? ⟨W1.heap.size, j, none⟩ = some (.int .u8 (y.toNat : Int)) := fun wz hw => (World.cell?_of_block (a := ⟨W1.heap.size, j, none⟩) hw.2).trans hy
          have hltm := block_lt hr11
          have hltx := block_lt hbx
          have hownd : wr.drew.ownsRow (w.heap.size + 3) 5 1 (.slice (some ⟨w.heap.size + 3, 0, none⟩) j l.length) j (l'.map bv) := hown
          have hbd : Below w.heap.size w wr.drew := hbr.drew
          gi_wp2
          refine wpIn_region_till (T := Same2 wm.heap.size W1.heap.size wr) _ _ 8 (by kernel_rfl) (by kernel_rfl) ?_ (fun hTill => ?_)
          · exact ⟨rfl, rfl⟩
          refine takeT 0 (v := ?_) rfl (by kernel_rfl) (by kernel_rfl) (by kernel_rfl) (by kernel_rfl) (by kernel_rfl) (by kernel_rfl) (fun _ _ _ h => h) (Or.inl ⟨by rfl, ?_⟩) (by assumption) (fun hTill => ?_)
          rotate_left
          · (intro w hSw; go_simp; try with_reducible rfl)
          (try simp only [Act.put, List.setIfInBounds_toArray, List.set_cons_zero, List.set_cons_succ])
          refine takeM 1 (v := ?_) rfl (by kernel_rfl) (by kernel_rfl) (by kernel_rfl) (by kernel_rfl) (fun _ _ _ h => h) (Or.inl ⟨by rfl, ?_⟩) (by assumption) (fun hTill => ?_)
          rotate_left
          · (intro w hSw; go_simp; try with_reducible rfl)
          (try simp only [Act.put, List.setIfInBounds_toArray, List.set_cons_zero, List.set_cons_succ])
          refine takeM 2 (v := ?_) rfl (by kernel_rfl) (by kernel_rfl) (by kernel_rfl) (by kernel_rfl) (fun _ _ _ h => h) (Or.inl ⟨by rfl, ?_⟩) (by assumption) (fun hTill => ?_)
          rotate_left
          · (intro w hSw; go_simp; try with_reducible rfl)
          (try simp only [Act.put, List.setIfInBounds_toArray, List.set_cons_zero, List.set_cons_succ])
          refine takeM 3 (v := ?_) rfl (by kernel_rfl) (by kernel_rfl) (by kernel_rfl) (by kernel_rfl) (fun _ _ _ h => h) (Or.inl ⟨by rfl, ?_⟩) (by assumption) (fun hTill => ?_)
          rotate_left
          · (intro w hSw; go_simp; try with_reducible rfl)
          (try simp only [Act.put, List.setIfInBounds_toArray, List.set_cons_zero, List.set_cons_succ])
          refine takeT 4 (v := ?_) rfl (by kernel_rfl) (by kernel_rfl) (by kernel_rfl) (by kernel_rfl) (by kernel_rfl) (by kernel_rfl) (fun _ _ _ h => h) (Or.inl ⟨by rfl, ?_⟩) (by assumption) (fun hTill => ?_)
          rotate_left
          · (intro w hSw; go_simp; try with_reducible rfl)
          (try simp only [Act.put, List.setIfInBounds_toArray, List.set_cons_zero, List.set_cons_succ])
          refine takeM 5 (v := ?_) rfl (by kernel_rfl) (by kernel_rfl) (by kernel_rfl) (by kernel_rfl) (fun _ _ _ h => h) (Or.inl ⟨by rfl, ?_⟩) (by assumption) (fun hTill => ?_)
          rotate_left
          · (intro w hSw; go_simp; try with_reducible rfl)
          (try simp only [Act.put, List.setIfInBounds_toArray, List.set_cons_zero, List.set_cons_succ])
          (obtain ⟨b, hb⟩ := bits_u8_byte BinOp.xor (z.toNat : Int) (y.toNat : Int); rw [hb]; clear hb)
          refine stepM 6 rfl (by kernel_rfl) (fun K hK => ?_)
          go_simp
          refine hK.out _ _ ?_ (fun hTill => ?_)
          · exact fun _ => ⟨heap_alloc_old _ _ _ hltm, heap_alloc_old _ _ _ hltx⟩
          clear hK K
          (try simp only [Act.put, List.setIfInBounds_toArray, List.set_cons_zero, List.set_cons_succ])
          refine stepM 7 rfl (by kernel_rfl) (fun K hK => ?_)
          (rw [if_pos (by rfl)]; obtain ⟨w8, hr8, own8, hg8⟩ := run_append_fits (P := Try.prog) (wr.drew.alloc (.cells #[.int .u8 (b.toNat : Int)] 5)) (w.heap.size + 3) 24 24 5 i0 1 Try.underlying24 hi hz1 (w.heap.size + 3) j l.length (l'.map bv) (owns_below hownd (one_alloc rfl).2.1) ⟨wr.heap.size, 0, none⟩ 1 1 [bv b] rfl (cell_one_new _ _ _) (by intro u hu; simp at hu; subst hu; rfl) (by omega); refine Lib.wp_append_run _ (.tmp 63) (.tmp 69) 24 24 (by rfl) _ _ (by rfl) (by rfl) _ w8 hr8 ?_; have hm8 := (hg8.block wm.heap.size (by simp; omega) (by have := HSE.out; simp; omega)).trans ((heap_alloc_old wr.drew _ _ hltm).trans (show wr.drew.heap[wm.heap.size]? = _ from hr11)); have hx8 := (hg8.block W1.heap.size (by simp; omega) (by have := HSE.out; simp; omega)).trans ((heap_alloc_old wr.drew _ _ hltx).trans (show wr.drew.heap[W1.heap.size]? = _ from hbx)); have c8 : w8.cell? ⟨wm.heap.size, 0, none⟩ = some (.slice (some ⟨w.heap.size + 3, 0, none⟩) j l.length) := cell_of_block hm8 0; have t8 := thawed hm8 0)
          refine hK.out _ _ ?_ (fun hTill => ?_)
          · exact fun _ => ⟨hm8.trans hr11.symm, hx8.trans hbx.symm⟩
          clear hK K
          (try simp only [Act.put, List.setIfInBounds_toArray, List.set_cons_zero, List.set_cons_succ])
          refine stepM 8 rfl (by kernel_rfl) (fun K hK => ?_)
          go_simp
          refine hK.out _ _ ?_ (fun hTill => ?_)
          · exact till_over (by kernel_rfl)
          clear hK K
          (try simp only [Act.put, List.setIfInBounds_toArray, List.set_cons_zero, List.set_cons_succ])
          refine doneM (by kernel_rfl) ?_ _
          refine Ends.normal ?_
          have L9 := set_cell (j := 0) hm8 (.slice (some ⟨w.heap.size + 3, 0, none⟩) (j + 1) l.length)
          obtain ⟨W9, hW9⟩ : ∃ W9, W9 = w8.setCell ⟨wm.heap.size, 0, none⟩ (.slice (some ⟨w.heap.size + 3, 0, none⟩) (j + 1) l.length) := ⟨_, rfl⟩
          rw [← hW9] at L9
          rw [← hW9]
          have K11 := Lib.hid L9.blk
          have KOW := Lib.hid (own_same own8 (L9.rest (w.heap.size + 3) (by have := HSE.out; omega)))
          have KRE : ∀ k, k < We.heap.size → k ≠ w.heap.size + 3 → k ≠ wm.heap.size → W9.heap[k]? = We.heap[k]? := fun k h1 h2 h3 => by
            have hlk : k < wr.heap.size := block_lt ((hrest k h1 h2 h3).trans (Array.getElem?_eq_getElem h1))
            refine (L9.rest k h3).trans ((hg8.block k (by simp; omega) (by simp; omega)).trans ((heap_alloc_old wr.drew _ _ hlk).trans (hrest k h1 h2 h3)))
          have KR := Lib.hid KRE
          have KB := Lib.hid (((hbd.alloc hbd.size _).grown hg8 (hbd.alloc hbd.size _).size (fun k e => by cases e; omega)).trans (L9.bel.mono (by have := HSE.out; omega)))
          have KL := Lib.hid hl'
          clear hW9 L9 KRE hrest hg8 own8 hm8 hx8 hr8 hown hownd hbd hbr hbx hr11 hl'
          gi_wp2
          refine ⟨⟨j + 1, l' ++ [b], by omega, by simp [KL.out], rfl, K11.out, ?_, KR.out, KB.out⟩, ?_⟩
          · have := KOW.out
            simpa using this
          · simp [intOf]
            omega
        · have hje : j = l.length := by omega
          subst hje
          have hdj : decide ((l.length : Int) < (l.length : Int)) = false := decide_eq_false (by omega)
          have c11 : wr.cell? ⟨wm.heap.size, 0, none⟩ = some (.slice (some ⟨w.heap.size + 3, 0, none⟩) l.length l.length) := cell_of_block hr11 0
          have c7 : wr.cell? ⟨w.heap.size + 1 + 1, 0, none⟩ = some (.slice (some ⟨tb, off, none⟩) l.length cv) := (World.cell?_of_block (a := ⟨w.heap.size + 1 + 1, 0, none⟩) (hrest (w.heap.size + 2) (by have := HSE.out; omega) (by omega) (by have := HSE.out; omega))).trans H7.out
          have h1 := Lib.hid (hrest (w6.heap.size + 1) (by have := HSE.out; omega) (by have := HSE.out; omega) (by have := HSE.out; omega))
          have h2 := Lib.hid (hrest w6.heap.size (by have := HSE.out; omega) (by have := HSE.out; omega) (by have := HSE.out; omega))
          have h3 := Lib.hid hl'
          have h4 := Lib.hid hr11
          have h5 := Lib.hid hown
          have h6 := Lib.hid hbr
          clear hrest hr11 hown hbr hl'
          gi_wp2
          exact ⟨h1.out, h2.out, ⟨l', h3.out, h4.out, h5.out⟩, h6.out⟩
  · rintro W3 o1 o2 ⟨⟨l2, hl2', hc3, hown3⟩, hb3⟩ hK
    obtain ⟨Wz, hWz⟩ : ∃ Wz, Wz = (W3.putObj (w6.heap.size + 1) o1).putObj (w6.heap.size + 1) o2 := ⟨_, rfl⟩
    rw [← hWz] at hK ⊢
    have hz : ∀ k, k ≠ w6.heap.size + 1 → Wz.heap[k]? = W3.heap[k]? := fun k hk => by rw [hWz, World.putObj_heap_other hk, World.putObj_heap_other hk]
    have hs6 := HS6.out
    have hsm := HSM.out
    have hbz : Below w.heap.size w Wz := by
      rw [hWz]
      refine (hb3.grown (grownBy_putObj' W3 _ o1) hb3.size (fun k e => by cases e; omega)).grown (grownBy_putObj' _ _ o2) ?_ (fun k e => by cases e; omega)
      simp only [World.putObj_size]
      exact hb3.size
    have c11 : Wz.cell? ⟨wm.heap.size, 0, none⟩ = some (.slice (some ⟨w.heap.size + 3, 0, none⟩) l.length l.length) := cell_of_block ((hz _ (by omega)).trans hc3) 0
    have HOZ := Lib.hid (own_same hown3 (hz (w.heap.size + 3) (by omega)))
    have HBZ := Lib.hid hbz
    have HL2 := Lib.hid hl2'
    have HS := Lib.hid (show w.heap.size + 3 < w6.heap.size from by omega)
    clear hWz hz hbz hown3 hc3 hb3 hl2' hs6 hsm q1 q2 q3
    gi_wp2
    refine ⟨by simp, .inl ⟨_, _, rfl, run_takeDeferred hK, ?_⟩⟩
    refine ⟨_, results_tmp2 rfl _ _ _, ⟨_, l2, HL2.out, rfl, ?_⟩, ?_⟩
    · rw [HL2.out]
      exact owns_base (own_same HOZ.out (World.putObj_heap_other (by have := HS.out; omega))) (by omega)
    · exact HBZ.out.grown (grownBy_putObj' Wz _ _) HBZ.out.size (fun k e => by cases e; have := HS.out; omega)
end Go.Proofs.Ytdiokmaomglefaa
