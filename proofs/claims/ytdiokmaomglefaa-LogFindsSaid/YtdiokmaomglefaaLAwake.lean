/- awake. -/
import Derived.Test.YtdiokmaomglefaaLApp
import Derived.Test.YtdiokmaomglefaaMC
import Derived.Test.YtdiokmaomglefaaGSeal
import Derived.Test.YtdiokmaomglefaaGAll
import Derived.Test.YtdiokmaomglefaaMX
namespace Go.Proofs.Ytdiokmaomglefaa
open Go Go.RowKit

def h5 : Hd := ⟨3, 0, 20, 5, 0⟩
def key1 : List UInt8 := 1 :: List.replicate 31 0
def devX (b : List UInt8) : Dv := ⟨100, [⟨1, b, 0⟩, ⟨0, [], 0⟩], z128, z128, [], [], false, -1, -1, 1⟩
theorem new_ok : devOk (newD 2 100) = true := by kernel_rfl
theorem devX_ok (b : List UInt8) (hb : b.length = 60) : devOk (devX b) = true := by
  simp [devOk, devX, zoneOk, rootsOk, hb, z128]
theorem devX_new (b : List UInt8) (hb : b.length = 60) : setZ (tick (newD 2 100)) 0 (grow 100 ⟨0, [], 0⟩ b) = devX b := by
  simp [setZ, tick, newD, grow, filled, devX, hb, List.replicate]
  decide
theorem app_new (b : List UInt8) (hb : b.length = 60) {dl : Dv} {zr ar er : Int} {nd : Nat} (h : App (newD 2 100) b dl zr ar nd er) : dl = devX b ∧ zr = 0 ∧ ar = 0 ∧ nd = 1 ∧ er = 0 := by
  have i1 : idxOf (firstP 100 1 60) (newD 2 100).zs = -1 := by kernel_rfl
  have i0 : idxOf (firstP 100 0 60) (newD 2 100).zs = 0 := by kernel_rfl
  have hl : ((b.length : Nat) : Int) = 60 := by omega
  have hs : (newD 2 100).size = 100 := rfl
  unfold App at h
  rw [hl, hs, i1, i0] at h
  rcases h with h | ⟨_, h | ⟨j, z, h, _⟩ | ⟨k, z, _, hk, hz, _, h⟩⟩
  · omega
  · omega
  · omega
  · obtain rfl : k = 0 := by omega
    have hz' : z = ⟨0, [], 0⟩ := (Option.some.inj hz).symm
    subst hz'
    rcases h with ⟨_, h1, h2, h3, h4, h5⟩ | ⟨h1, _⟩
    · exact ⟨h1.trans (devX_new b hb), h2, h3, h4, h5⟩
    · exact absurd h1 (by decide)
theorem X_i1 (b : List UInt8) (hb : b.length = 60) : idxOf (firstP 100 1 60) (devX b).zs = -1 := by
  simp [idxOf, devX, firstP, List.findIdx?_cons, hb]
theorem X_i0 (b : List UInt8) : idxOf (firstP 100 0 60) (devX b).zs = (1 : Nat) := by
  simp [idxOf, devX, firstP, List.findIdx?_cons]
theorem write_h5 : writeH h5 = some (hdW h5) := by
  unfold writeH hdW
  rw [if_pos (by decide)]
theorem X_frames (x : List UInt8) (hx : x.length = 36) : frames (devX (hdW h5 ++ x)).zs = [⟨h5, 0, 0⟩] := by
  have hl : (hdW h5 ++ x).length = 60 := by rw [List.length_append, hdW_length, hx]
  have ht : Til 0 (hdW h5 ++ x) [(h5, 0)] := by
    have := Til.cons 0 (hdW h5 ++ x) [] h5 [] (read_write write_h5 x) (by rw [hl]; rfl) (Til.nil _)
    rwa [List.append_nil] at this
  have h0 : zoneFs 0 ⟨1, hdW h5 ++ x, 0⟩ = [⟨h5, 0, 0⟩] := by
    unfold zoneFs
    rw [if_neg (show ¬ (1 : Int) = 4 by decide)]
    show (scanB (hdW h5 ++ x)).map _ = _
    rw [ht.scanB]
    rfl
  have h1 : zoneFs 1 ⟨0, [], 0⟩ = [] := by rfl
  show zoneFs 0 ⟨1, hdW h5 ++ x, 0⟩ ++ (zoneFs 1 ⟨0, [], 0⟩ ++ []) = _
  rw [h0, h1]
  rfl
theorem new_free : Free (newD 2 100) := ⟨new_ok, rfl, by decide, by decide⟩
set_option linter.unusedSimpArgs false in
set_option maxRecDepth 100000 in
set_option maxHeartbeats 4000000 in
theorem awake_any (w : World) : Calls Try.prog 8 #[] w fun e w' => e = .returned (.bool true) ∧ Below w.heap.size w w' := by
  have hi10 : (Try.prog.info? 27).map (·.size) = some 10 := by kernel_rfl
  go_enter Try.func8, Try.ntmps8
  go_wp2_with fail
  refine (new_any [] 2 100 (by omega) (by omega) (by omega) (by omega) w (by simp)).mono ?_
  rintro e w1 ⟨⟨cd, rfl, hd1⟩, hb1⟩
  have hten := hd1.is.ten
  have hone := hd1.is.one
  have HB1 := Lib.hid hb1
  have HD1 := Lib.hid hd1
  clear hb1 hd1
  go_wp2_with (first
    | (refine wpList_lay (by rfl) 27 (.tmp 1) (.tmp 26) (by rfl) w1.heap.size cd.toArray (by rfl) (by rfl) _ _ (heap_alloc_new w1 _) 10 hi10 hten (by rfl) hone ?_
       intro w2 hL2
       have r1 := range_of_block (cs := cd) hL2.blk
       have HL2 := Lib.hid hL2
       clear hL2)
    | refine wpList_load_at (by rfl) 27 (.tmp 1) rfl w1.heap.size 0 (by rfl) cd _ r1 Try.underlying27 rfl (by rw [hi10, ← hten]; rfl) ?_
    | fail)
  have hb12 : Below w1.heap.size w1 w2 := ((Below.refl _ w1).alloc (Nat.le_refl _) _).trans HL2.out.bel
  have HB2 := Lib.hid (HB1.out.trans (hb12.mono HB1.out.size))
  have HD2 := Lib.hid (HD1.out.below hb12)
  have HG2 := Lib.hid HL2.out.blk
  have HT := Lib.hid hten
  clear hb12 HL2 HD1 HB1 r1 hone hten
  refine (place_empty (newD 2 100) cd 60 w2 HD2.out.is new_ok (by decide) (by decide) (by kernel_rfl) 0 (by kernel_rfl) (by decide)).mono ?_
  rintro e w3 ⟨⟨v, rfl, hv⟩, hb3⟩
  have hv' : v = .slice none 0 0 := hv
  subst hv'
  have HB3 := Lib.hid (HB2.out.trans (hb3.mono HB2.out.size))
  have HD3 := Lib.hid (HD2.out.below hb3)
  have HG3 := Lib.hid (blk_on HG2.out hb3)
  clear hb3 HD2 HG2 hv HB2
  have hmk : (Instr.makeSlice 24 (.int .i64 20) (.int .i64 20)).run Try.prog w3 = .ok (.slice (some ⟨w3.heap.size, 0, none⟩) 20 20) (w3.alloc (.cells #[.int .u8 0, .int .u8 0, .int .u8 0, .int .u8 0, .int .u8 0, .int .u8 0, .int .u8 0, .int .u8 0, .int .u8 0, .int .u8 0, .int .u8 0, .int .u8 0, .int .u8 0, .int .u8 0, .int .u8 0, .int .u8 0, .int .u8 0, .int .u8 0, .int .u8 0, .int .u8 0] 5)) := by kernel_rfl
  go_wp2_with fail
  refine calls_world (fun w4 e4 => ?_)
  obtain ⟨g4, hb4, hs4⟩ := one_alloc e4
  clear e4 hmk
  have hbt : Bt w4 (.slice (some ⟨w3.heap.size, 0, none⟩) 20 20) (List.replicate 20 0) := bt_block (l := List.replicate 20 0) g4 (by simp)
  refine (fseal_any h5 (by decide) key1 rfl _ (List.replicate 20 0) (by decide) (by decide) rfl w4 hbt).mono ?_
  rintro e w5 ⟨⟨v5, x, hx, rfl, hb5⟩, hbe⟩
  have hbl : (hdW h5 ++ x).length = 60 := by rw [List.length_append, hdW_length, hx]; rfl
  have HX := Lib.hid hx
  obtain ⟨a5, c5, rfl⟩ := hb5.open
  obtain ⟨bb5, ob5, rfl, _⟩ := hb5.where (by rw [hbl]; decide)
  have hb35 : Below w3.heap.size w3 w5 := hb4.trans (hbe.mono (by omega))
  have HB5 := Lib.hid (HB3.out.trans (hb35.mono HB3.out.size))
  have HD5 := Lib.hid (HD3.out.below hb35)
  have hG5 := blk_on HG3.out hb35
  have r5 := range_of_block (cs := cd) hG5
  have HBT := Lib.hid hb5
  have HG5 := Lib.hid hG5
  have hl10 : (Try.prog.info? 27).map (·.size) = some cd.length := by rw [hi10, ← HT.out]; rfl
  clear hb5 hbe hb35 HB3 HD3 HG3 hb4 g4 hs4 hbt hx hG5
  rw [hbl] at HBT ⊢
  go_wp2_with (first
    | refine wpList_load_at (by rfl) 27 (.tmp 1) rfl w1.heap.size 0 (by rfl) cd _ r5 Try.underlying27 rfl hl10 ?_
    | fail)
  have hap := app_any [] (newD 2 100) cd (hdW h5 ++ x) ⟨bb5, ob5, none⟩ c5 w5 HD5.out (by simp) new_free (by rw [hbl]; exact HBT.out) (by rw [hbl]; decide)
  rw [hbl] at hap
  refine hap.mono ?_
  rintro e w6 ⟨⟨cx, dl, zr, ar, nd, er, ac, cc, rfl, hdx, hA, _⟩, hb6⟩
  obtain ⟨rfl, rfl, rfl, rfl, rfl⟩ := app_new _ hbl hA
  have hXF := X_frames x HX.out
  generalize hdW h5 ++ x = B at *
  have HXF := Lib.hid hXF
  have HBL := Lib.hid hbl
  have hten6 := hdx.is.ten
  have hone6 := hdx.is.one
  have HB6 := Lib.hid (HB5.out.trans (hb6.mono HB5.out.size))
  have HDX := Lib.hid hdx
  have hlx : (Try.prog.info? 27).map (·.size) = some cx.length := by rw [hi10, ← hten6]; rfl
  clear hXF hbl hap hA hb6 hdx HB5 HD5 HG5 HBT HX r5 hl10 HT
  go_wp2_with (first
    | (refine wpList_lay (by rfl) 27 (.tmp 9) (.tmp 46) (by rfl) w6.heap.size cx.toArray (by rfl) (by rfl) _ _ (heap_alloc_new w6 _) 10 hi10 hten6 (by rfl) hone6 ?_
       intro w7 hL7
       have r7 := range_of_block (cs := cx) hL7.blk
       have HL7 := Lib.hid hL7
       clear hL7)
    | refine wpList_load_at (by rfl) 27 (.tmp 9) rfl w6.heap.size 0 (by rfl) cx _ r7 Try.underlying27 rfl hlx ?_
    | fail)
  have hb67 : Below w6.heap.size w6 w7 := ((Below.refl _ w6).alloc (Nat.le_refl _) _).trans HL7.out.bel
  have HB7 := Lib.hid (HB6.out.trans (hb67.mono HB6.out.size))
  have HD7 := Lib.hid (HDX.out.below hb67)
  have HG7 := Lib.hid HL7.out.blk
  clear hb67 HL7 HDX HB6 r7 hone6 hten6
  refine (place_empty (devX B) cx 60 w7 HD7.out.is (devX_ok B HBL.out) (by decide) (show ¬ (100 : Int) < 60 by decide) (X_i1 B HBL.out) 1 (X_i0 B) (show ¬ 4 ≤ 1 by decide)).mono ?_
  rintro e w8 ⟨⟨v8, rfl, hv8⟩, hb8⟩
  have hv8' : v8 = .slice none 0 0 := hv8
  subst hv8'
  have HB8 := Lib.hid (HB7.out.trans (hb8.mono HB7.out.size))
  have HD8 := Lib.hid (HD7.out.below hb8)
  have HG8 := Lib.hid (blk_on HG7.out hb8)
  have r8 := range_of_block (cs := cx) HG8.out
  clear hb8 HD7 HG7 hv8 HB7
  go_wp2_with (first
    | refine wpList_load_at (by rfl) 27 (.tmp 9) rfl w6.heap.size 0 (by rfl) cx _ r8 Try.underlying27 rfl hlx ?_
    | fail)
  refine (all_any (devX B) cx w8 HD8.out.is (devX_ok B HBL.out)).mono ?_
  rintro e w9 ⟨⟨a9, c9, l9, rfl, hperm, _, hrow⟩, hb9⟩
  rw [HXF.out] at hperm
  obtain rfl := List.perm_singleton.1 hperm
  obtain ⟨bl, ol, rfl, hbll, hrl⟩ := hrow.where (by simp)
  have HB9 := Lib.hid (HB8.out.trans (hb9.mono HB8.out.size))
  have HD9 := Lib.hid (HD8.out.below hb9)
  have HG9 := Lib.hid (blk_on HG8.out hb9)
  have HRW := Lib.hid hrow
  have r9 := range_of_block (cs := cx) HG9.out
  have hcl : w9.cell? ⟨bl, ol + 3, none⟩ = some (.int .i64 5) := hrl 3 _ rfl
  have HCL := Lib.hid hcl
  clear hb9 HD8 HG8 HB8 r8 hperm hrow hrl hcl
  go_wp2_with (first
    | refine wpList_load_at (by rfl) 27 (.tmp 9) rfl w6.heap.size 0 (by rfl) cx _ r9 Try.underlying27 rfl hlx ?_
    | fail)
  refine (place_arg (devX B) cx 101 w9 HD9.out.is (.inr (.inr (show (100 : Int) < 101 by decide)))).mono ?_
  rintro e w10 ⟨⟨v10, rfl, hv10⟩, hb10⟩
  have hv10' : v10 = .slice none 0 0 := hv10
  subst hv10'
  have HB10 := Lib.hid (HB9.out.trans (hb10.mono HB9.out.size))
  have HD10 := Lib.hid (HD9.out.below hb10)
  have HG10 := Lib.hid (blk_on HG9.out hb10)
  have HRW10 := Lib.hid (HRW.out.below hb10)
  have hcl : w10.cell? ⟨bl, ol + 3, none⟩ = some (.int .i64 5) := (hb10.cell (p := ⟨bl, ol + 3, none⟩) hbll).trans HCL.out
  clear hb10 HD9 HG9 HB9 hv10 HRW HCL r9
  go_wp2_with fail
  have hn6 : nextOf [⟨h5, 0, 0⟩] = 6 := by rfl
  have hn0 : nextOf [] = 0 := by rfl
  have hnx := next_any (some ⟨bl, ol, none⟩) c9 [⟨h5, 0, 0⟩] (by intro f hf; simp at hf; subst hf; decide) w10 HRW10.out
  rw [hn6] at hnx
  refine hnx.mono ?_
  rintro e w11 ⟨rfl, hb11⟩
  clear hnx hcl
  have HB11 := Lib.hid (HB10.out.trans (hb11.mono HB10.out.size))
  have HD11 := Lib.hid (HD10.out.below hb11)
  have HG11 := Lib.hid (blk_on HG10.out hb11)
  clear hb11 HB10 HD10 HG10 HRW10 hn6
  go_wp2_with fail
  have hny := next_any none 0 [] (by simp) w11 (rw_nil 7 w11)
  rw [hn0] at hny
  refine hny.mono ?_
  rintro e w12 ⟨rfl, hb12⟩
  clear hny hn0
  have HB12 := Lib.hid (HB11.out.trans (hb12.mono HB11.out.size))
  have HD12 := Lib.hid (HD11.out.below hb12)
  have HG12 := Lib.hid (blk_on HG11.out hb12)
  have r12 := range_of_block (cs := cx) HG12.out
  clear hb12 HB11 HD11 HG11
  go_wp2_with (first
    | refine wpList_load_at (by rfl) 27 (.tmp 9) rfl w6.heap.size 0 (by rfl) cx _ r12 Try.underlying27 rfl hlx ?_
    | fail)
  have hem := lempty_any (devX B) cx w12 HD12.out.is
  have he1 : emptyN (devX B).zs = 1 := by rfl
  rw [he1] at hem
  refine hem.mono ?_
  rintro e w13 ⟨rfl, hb13⟩
  have HB13 := Lib.hid (HB12.out.trans (hb13.mono HB12.out.size))
  clear hem he1 hb13 r12
  go_wp2
  go_ret
  exact ⟨rfl, HB13.out⟩
end Go.Proofs.Ytdiokmaomglefaa
