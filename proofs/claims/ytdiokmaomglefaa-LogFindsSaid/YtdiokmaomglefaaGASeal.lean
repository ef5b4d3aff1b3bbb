/- aead.Seal of a text of 1 to 64 bytes: sixteen bytes more. -/
import Derived.Test.YtdiokmaomglefaaGXor
import Derived.Test.YtdiokmaomglefaaGTag
import Derived.Test.YtdiokmaomglefaaGNonce
namespace Go.Proofs.Ytdiokmaomglefaa
open Go Go.RowKit

set_option linter.unusedSimpArgs false in
set_option maxRecDepth 100000 in
set_option maxHeartbeats 4000000 in
theorem aseal_any (ks ns : List UInt8) (hk : ks.length = 32) (hn : ns.length = 12) (v vb : Value) (l lb : List UInt8) (hl1 : 1 ≤ l.length) (hl2 : l.length ≤ 64) (hlb : lb.length ≤ 10000) (w : World) (h : Bt w v l) (hb : Bt w vb lb) :
    Calls Try.prog 38 #[.agg (ks.map bv).toArray, .agg (ns.map bv).toArray, v, vb] w fun e w' => (∃ (v' : Value) (l' : List UInt8), l'.length = l.length + 16 ∧ e = .returned (.tuple #[v', .int .i64 0]) ∧ Bt w' v' l') ∧ Below w.heap.size w w' := by
  obtain ⟨i0, hi, hz0, hz1, hz2⟩ := info_parts info_u8
  have HK := Lib.hid hk
  have HNN := Lib.hid hn
  have HP := Lib.hid h
  have HA := Lib.hid hb
  obtain ⟨ap, cp, rfl, _⟩ := id h
  obtain ⟨aa, ca, rfl, _⟩ := id hb
  have hi32 : (Try.prog.info? 55).map (·.size) = some (ks.map bv).length := by rw [List.length_map, hk]; kernel_rfl
  have hi12 : (Try.prog.info? 83).map (·.size) = some (ns.map bv).length := by rw [List.length_map, hn]; kernel_rfl
  have hi16 : (Try.prog.info? 122).map (·.size) = some 16 := by kernel_rfl
  have h3 := two_alloc (w := w) (o1 := .cells (ks.map bv).toArray 55) (o2 := .cells (ns.map bv).toArray 83) rfl
  have r1 := range_of_block (cs := ks.map bv) h3.1
  have r2 := range_of_block (cs := ns.map bv) h3.2.1
  clear h3 hk hn h hb
  go_enter Try.func38, Try.ntmps38
  go_wp2_with (first
    | refine wpList_load_at (by rfl) 55 (.tmp 4) rfl w.heap.size 0 (by rfl) (ks.map bv) _ r1 Try.underlying55 rfl hi32 ?_
    | refine wpList_load_at (by rfl) 83 (.tmp 5) rfl (w.heap.size + 1) 0 (by rfl) (ns.map bv) _ r2 Try.underlying83 rfl hi12 ?_)
  clear r1 r2
  refine calls_world (fun w0 e0 => ?_)
  obtain ⟨g1, g2, hb0, hs0⟩ := two_alloc e0
  clear e0
  refine (xor_any ks ns HK.out HNN.out _ l hl1 hl2 w0 (HP.out.below hb0)).mono ?_
  rintro e w1 ⟨⟨v1, l1, hl1', rfl, hown1⟩, hb1⟩
  have hbw1 := hb0.trans (hb1.mono (by omega))
  have r1 := range_of_block (cs := ks.map bv) (blk_on g1 hb1)
  have r2 := range_of_block (cs := ns.map bv) (blk_on g2 hb1)
  have HB1 := Lib.hid hbw1
  have HO1 := Lib.hid (owns_base hown1 (show w.heap.size ≤ w0.heap.size by omega))
  have HL1 := Lib.hid hl1'
  obtain ⟨a1, c1, rfl, _⟩ := own_rw hown1
  clear g1 g2 hb0 hs0 hb1 hbw1 hown1 hl1'
  go_wp2_with (first
    | refine wpList_load_at (by rfl) 55 (.tmp 4) rfl w.heap.size 0 (by rfl) (ks.map bv) _ r1 Try.underlying55 rfl hi32 ?_
    | refine wpList_load_at (by rfl) 83 (.tmp 5) rfl (w.heap.size + 1) 0 (by rfl) (ns.map bv) _ r2 Try.underlying83 rfl hi12 ?_)
  clear r1 r2
  refine (tag_any ks ns HK.out HNN.out _ _ l1 lb w1 (by rw [HL1.out]; omega) hlb (own_bt HO1.out (by rw [HL1.out]; omega)) (HA.out.below HB1.out)).mono ?_
  rintro e w2 ⟨⟨lt, hlt, rfl⟩, hb2⟩
  have HS16 := Lib.hid (show (lt.map bv).toArray.size = 16 from by simpa using hlt)
  have hone := bytes_one lt
  have gM := one_alloc (w := w2) (o1 := .cells #[.int .u8 0, .int .u8 0, .int .u8 0, .int .u8 0, .int .u8 0, .int .u8 0, .int .u8 0, .int .u8 0, .int .u8 0, .int .u8 0, .int .u8 0, .int .u8 0, .int .u8 0, .int .u8 0, .int .u8 0, .int .u8 0] 122) rfl
  have HLT := Lib.hid hlt
  have HB2 := Lib.hid hb2
  clear hlt hb2
  go_wp2_with (first
    | (refine wpList_lay (by rfl) 122 (.tmp 12) (.tmp 27) rfl w2.heap.size (lt.map bv).toArray (by rfl) (by rfl) 122 _ gM.1 16 hi16 HS16.out rfl hone ?_
       intro w3 hL3
       have hb3 : Below w2.heap.size w2 w3 := gM.2.1.trans hL3.bel
       have HB3 := Lib.hid (HB1.out.trans ((HB2.out.mono HB1.out.size).trans (hb3.mono (HB1.out.trans (HB2.out.mono HB1.out.size)).size)))
       have hown3 := owns_below (owns_below HO1.out HB2.out) hb3
       have hsrc := rw_block 1 hL3.blk 16 (by rw [List.length_map, HLT.out]) (by unfold maxLen; omega)
       clear hb3 gM hL3)
    | (at_builtin
       refine wpList_append_rw _ rfl (.tmp 28) (.tmp 29) 24 rfl w.heap.size 5 i0 (.int .u8 0) 1 1 Try.underlying24 hi hz0 hz1 hz2 rfl (by decide) (.slice a1 l1.length c1) l1.length (l1.map bv) rfl hown3 _ 16 _ rfl hsrc (bv_one _) (by unfold maxLen; have := HL1.out; omega) (by have := HL1.out; omega) HB3.out.size ?_
       intro v4 w4 hown4 hg4
       have HB4 := Lib.hid (HB3.out.grown hg4 HB3.out.size (fun k e => (hown3.lt k e).1))
       have HO4 := Lib.hid hown4
       clear hown3 hown4 hsrc hg4))
  refine bodyPost_ret (results_tmp2 rfl _ _ _) rfl ?_
  refine ⟨⟨v4, l1 ++ lt, by rw [List.length_append, HLT.out, HL1.out], rfl, ?_⟩, HB4.out⟩
  refine own_bt (B := w.heap.size) (e := 5) ?_ (by rw [List.length_append, HLT.out, HL1.out]; omega)
  have e1 : (l1 ++ lt).length = l1.length + 16 := by rw [List.length_append, HLT.out]
  rw [e1, List.map_append]
  exact HO4.out
end Go.Proofs.Ytdiokmaomglefaa
