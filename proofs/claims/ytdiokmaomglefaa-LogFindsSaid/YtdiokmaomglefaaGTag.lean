/- The tag of a text and what stands beside it: aead.Tag. -/
import Derived.Test.YtdiokmaomglefaaMT
import Derived.Test.YtdiokmaomglefaaMH
import Derived.Test.YtdiokmaomglefaaGPolySum
namespace Go.Proofs.Ytdiokmaomglefaa
open Go Go.RowKit

theorem index_pair (x y : Int) (q : Nat) (hq : q < 2) : ∃ X : Int, ∀ w, (Instr.index 147 (.agg #[.int .i64 x, .int .i64 y]) (.int .i64 q)).run Try.prog w = .ok (.int .i64 X) w := by
  have h : q = 0 ∨ q = 1 := by omega
  rcases h with rfl | rfl
  · exact ⟨x, fun w => by kernel_rfl⟩
  · exact ⟨y, fun w => by kernel_rfl⟩
set_option linter.unusedSimpArgs false in
set_option maxRecDepth 100000 in
set_option maxHeartbeats 8000000 in
theorem tag_any (ks ns : List UInt8) (hk : ks.length = 32) (hn : ns.length = 12) (vp va : Value) (lp la : List UInt8) (w : World) (hlp : lp.length ≤ 10000) (hla : la.length ≤ 10000) (hp : Bt w vp lp) (ha : Bt w va la) :
    Calls Try.prog 62 #[.agg (ks.map bv).toArray, .agg (ns.map bv).toArray, vp, va] w fun e w' => (∃ l' : List UInt8, l'.length = 16 ∧ e = .returned (.agg (l'.map bv).toArray)) ∧ Below w.heap.size w w' := by
  have HK := Lib.hid hk
  have HNN := Lib.hid hn
  have HP := Lib.hid hp
  have HA := Lib.hid ha
  obtain ⟨ap, cp, rfl, _⟩ := id hp
  obtain ⟨aa, ca, rfl, _⟩ := id ha
  have hi32 : (Try.prog.info? 55).map (·.size) = some (ks.map bv).length := by rw [List.length_map, hk]; kernel_rfl
  have hi12 : (Try.prog.info? 83).map (·.size) = some (ns.map bv).length := by rw [List.length_map, hn]; kernel_rfl
  have h3 := three_alloc (w := w) (o1 := .cells (ks.map bv).toArray 55) (o2 := .cells (ns.map bv).toArray 83) (o3 := .cells #[.int .u8 0, .int .u8 0, .int .u8 0, .int .u8 0, .int .u8 0, .int .u8 0, .int .u8 0, .int .u8 0, .int .u8 0, .int .u8 0, .int .u8 0, .int .u8 0, .int .u8 0, .int .u8 0, .int .u8 0, .int .u8 0] 122) rfl
  have r1 := range_of_block (cs := ks.map bv) h3.1
  have r2 := range_of_block (cs := ns.map bv) h3.2.1
  clear h3 hk hn hp ha
  go_enter Try.func62, Try.ntmps62
  go_wp2_with (first
    | refine wpList_load_at (by rfl) 55 (.tmp 4) rfl w.heap.size 0 (by rfl) (ks.map bv) _ r1 Try.underlying55 rfl hi32 ?_
    | refine wpList_load_at (by rfl) 83 (.tmp 5) rfl (w.heap.size + 1) 0 (by rfl) (ns.map bv) _ r2 Try.underlying83 rfl hi12 ?_)
  clear r1 r2 hi12 hi32
  refine calls_world (fun w0 e0 => ?_)
  obtain ⟨_, _, g3, hb, hs0⟩ := three_alloc e0
  clear e0
  refine (block_any ks ns HK.out HNN.out 0 w0).mono ?_
  rintro e w1 ⟨⟨kb, hkb, rfl⟩, hb1⟩
  obtain ⟨N, hN⟩ : ∃ N, w.heap.size = N := ⟨_, rfl⟩
  have hw1 : N + 3 ≤ w1.heap.size := by have := hb1.size; omega
  have hbw := hb.trans (hb1.mono (by omega))
  rw [hN] at g3 hbw ⊢
  have G3 := Lib.hid (blk_on g3 hb1)
  have HBW := Lib.hid hbw
  have HN := Lib.hid hN
  have HKB := Lib.hid hkb
  have HS64 := Lib.hid (show (kb.map bv).toArray.size = 64 from by simpa using hkb)
  have hone := bytes_one kb
  have hi64 : (Try.prog.info? 144).map (·.size) = some 64 := by kernel_rfl
  have gM := (one_alloc (w := w1) (o1 := .cells #[.int .u8 0, .int .u8 0, .int .u8 0, .int .u8 0, .int .u8 0, .int .u8 0, .int .u8 0, .int .u8 0, .int .u8 0, .int .u8 0, .int .u8 0, .int .u8 0, .int .u8 0, .int .u8 0, .int .u8 0, .int .u8 0, .int .u8 0, .int .u8 0, .int .u8 0, .int .u8 0, .int .u8 0, .int .u8 0, .int .u8 0, .int .u8 0, .int .u8 0, .int .u8 0, .int .u8 0, .int .u8 0, .int .u8 0, .int .u8 0, .int .u8 0, .int .u8 0, .int .u8 0, .int .u8 0, .int .u8 0, .int .u8 0, .int .u8 0, .int .u8 0, .int .u8 0, .int .u8 0, .int .u8 0, .int .u8 0, .int .u8 0, .int .u8 0, .int .u8 0, .int .u8 0, .int .u8 0, .int .u8 0, .int .u8 0, .int .u8 0, .int .u8 0, .int .u8 0, .int .u8 0, .int .u8 0, .int .u8 0, .int .u8 0, .int .u8 0, .int .u8 0, .int .u8 0, .int .u8 0, .int .u8 0, .int .u8 0, .int .u8 0, .int .u8 0] 144) rfl).1
  have BM := Lib.hid (one_alloc (w := w1) (o1 := .cells #[.int .u8 0, .int .u8 0, .int .u8 0, .int .u8 0, .int .u8 0, .int .u8 0, .int .u8 0, .int .u8 0, .int .u8 0, .int .u8 0, .int .u8 0, .int .u8 0, .int .u8 0, .int .u8 0, .int .u8 0, .int .u8 0, .int .u8 0, .int .u8 0, .int .u8 0, .int .u8 0, .int .u8 0, .int .u8 0, .int .u8 0, .int .u8 0, .int .u8 0, .int .u8 0, .int .u8 0, .int .u8 0, .int .u8 0, .int .u8 0, .int .u8 0, .int .u8 0, .int .u8 0, .int .u8 0, .int .u8 0, .int .u8 0, .int .u8 0, .int .u8 0, .int .u8 0, .int .u8 0, .int .u8 0, .int .u8 0, .int .u8 0, .int .u8 0, .int .u8 0, .int .u8 0, .int .u8 0, .int .u8 0, .int .u8 0, .int .u8 0, .int .u8 0, .int .u8 0, .int .u8 0, .int .u8 0, .int .u8 0, .int .u8 0, .int .u8 0, .int .u8 0, .int .u8 0, .int .u8 0, .int .u8 0, .int .u8 0, .int .u8 0, .int .u8 0] 144) rfl).2
  clear hb hb1 hs0 g3 hbw hN hkb
  go_wp2_with (first
    | (refine wpList_lay (by rfl) 144 (.tmp 9) (.tmp 17) rfl w1.heap.size (kb.map bv).toArray (by rfl) (by rfl) 144 _ gM 64 hi64 HS64.out rfl hone ?_; intro w2 hL2)
    | fail)
  clear hone gM hi64
  refine calls_world (fun w3 e3 => ?_)
  obtain ⟨gC, hb3, hs3⟩ := one_alloc e3
  clear e3
  have hb2 := BM.out.1.trans hL2.bel
  have hs2 : w2.heap.size = w1.heap.size + 1 := hL2.size.trans BM.out.2
  have GM := Lib.hid (blk_on hL2.blk hb3)
  have hb23 := hb2.trans (hb3.mono (by omega))
  have HB3 := Lib.hid (HBW.out.trans (hb23.mono (by omega)))
  have G33 := Lib.hid (blk_on G3.out hb23)
  obtain ⟨M, hM⟩ : ∃ M, w1.heap.size = M := ⟨_, rfl⟩
  rw [hs2] at gC hs3 ⊢
  rw [hM] at gC hs3 GM hw1 ⊢
  have T0 : TextAt (M + 1) [] w3 := ⟨_, gC, by simpa using World.ownsRow_nil w3 (M + 1 + 1) 5 1⟩
  have HS3 := Lib.hid hs3
  clear hb3 hb2 hb23 hs2 BM hL2 gC hs3 hM HS64
  have hwn := HN.out
  have HA3 := Lib.hid (HA.out.below (by rw [hwn]; exact HB3.out))
  clear hwn HA
  refine (tag1_any (M + 1) _ [] la w3 T0 HA3.out (by simp; omega)).mono ?_
  rintro e w4 ⟨rfl, ⟨l4, hl4, T4⟩, hb4⟩
  have hl4' : l4.length ≤ 10015 := by simp at hl4; omega
  have HT4 := Lib.hid T4
  have HL4 := Lib.hid hl4'
  have HB4 := Lib.hid hb4
  clear T0 T4 hl4 hl4' hb4
  have hP4 : Bt w4 (.slice ap lp.length cp) lp := HP.out.below (by rw [HN.out]; exact HB3.out.trans (HB4.out.mono (by omega)))
  go_wp2_with fail
  refine (tag1_any (M + 1) _ l4 lp w4 HT4.out hP4 (by have := HL4.out; omega)).mono ?_
  rintro e w5 ⟨rfl, ⟨l5, hl5, T5⟩, hb5⟩
  have HT5 := Lib.hid T5
  have HL5 := Lib.hid (show l5.length ≤ 20030 from by have := HL4.out; omega)
  have HB5 := Lib.hid (HB4.out.trans hb5)
  clear hP4 T5 hl5 hb5 HT4 HB4 HL4
  go_wp2_with fail
  go_loopw [13, 14, 30, 33] (fun _ _ i _ wr => ∃ q : Nat, q ≤ 2 ∧ i = .int .i64 q ∧ ∃ l' : List UInt8, l'.length ≤ 20030 + 8 * q ∧ TextAt (M + 1) l' wr ∧ Below (M + 1) w3 wr) (fun _ _ i _ _ => 2 - (intOf i).toNat)
  case atStart => exact ⟨0, by omega, rfl, l5, HL5.out, HT5.out, HB5.out⟩
  case round =>
    clear HT5 HL5 HB5
    obtain ⟨q, hq, rfl, l6, hl6, hT6, hb6⟩ := hrel
    by_cases hlt : q < 2
    · have hdq : decide ((q : Int) < 2) = true := decide_eq_true (by omega)
      have e1 : IntKind.i64.wrap ((q : Int) + 1) = (q : Int) + 1 := IntWalk.i64_in _ (by omega)
      obtain ⟨X, hX⟩ := index_pair (la.length : Int) (lp.length : Int) q hlt
      have HT6 := Lib.hid hT6
      have HB6 := Lib.hid hb6
      have HL6 := Lib.hid hl6
      clear hT6 hb6 hl6
      go_wp2_with fail
      clear hX
      go_loopw [14, 33] (fun _ i wr => ∃ j : Nat, j ≤ 8 ∧ i = .int .i64 j ∧ ∃ l' : List UInt8, l'.length ≤ 20030 + 8 * q + j ∧ TextAt (M + 1) l' wr ∧ Below (M + 1) w3 wr) (fun _ i _ => 8 - (intOf i).toNat)
      case atStart => exact ⟨0, by omega, rfl, l6, HL6.out, HT6.out, HB6.out⟩
      case round =>
        clear HT6 HL6 HB6
        obtain ⟨j, hj, rfl, l7, hl7, hT7, hb7⟩ := hrel
        by_cases hlj : j < 8
        · have hdj : decide ((j : Int) < 8) = true := decide_eq_true (by omega)
          have e2 : IntKind.i64.wrap ((j : Int) + 1) = (j : Int) + 1 := IntWalk.i64_in _ (by omega)
          have e3 : IntKind.i64.wrap (8 * (j : Int)) = 8 * (j : Int) := IntWalk.i64_in _ (by omega)
          have j6 : (0 : Int) ≤ 8 * (j : Int) := by omega
          obtain ⟨v, hC, hown⟩ := hT7
          obtain ⟨av, cv, rfl, _⟩ := own_rw hown
          obtain ⟨i0, hi, hz0, hz1, hz2⟩ := info_parts info_u8
          have hcv : wr.cell? ⟨M + 1, 0, none⟩ = some (.slice av l7.length cv) := cell_of_block hC 0
          have hCd : wr.drew.heap[M + 1]? = some (.cells #[.slice av l7.length cv] 24 (0, 0)) := hC
          have hownd : wr.drew.ownsRow (M + 1 + 1) 5 1 (.slice av l7.length cv) l7.length (l7.map bv) := hown
          have hltM := block_lt hC
          have hbd : Below (M + 1) w3 wr.drew := hb7.drew
          go_wp2_with fail
          refine wp_region_noPanic ?_
          refine wp_region_till (T := (fun w => w.cell? ⟨M + 1, 0, none⟩ = some (.slice av l7.length cv))) 8 (by kernel_rfl) ?_ (fun hTill => ?_)
          · exact hcv
          refine takeT 0 (v := ?_) rfl (by kernel_rfl) (by kernel_rfl) (by kernel_rfl) (by kernel_rfl) (by kernel_rfl) (by kernel_rfl) (fun _ _ _ h => h) (Or.inl ⟨by rfl, ?_⟩) (by assumption) (fun hTill => ?_)
          rotate_left
          · (intro w hSw; go_simp; try with_reducible rfl)
          (try simp only [Act.put, List.setIfInBounds_toArray, List.set_cons_zero, List.set_cons_succ])
          refine takeM 1 (v := ?_) rfl (by kernel_rfl) (by kernel_rfl) (by kernel_rfl) (by kernel_rfl) (fun _ _ _ h => h) (Or.inl ⟨by rfl, ?_⟩) (by assumption) (fun hTill => ?_)
          rotate_left
          · (intro w hSw; go_simp; try with_reducible rfl)
          (try simp only [Act.put, List.setIfInBounds_toArray, List.set_cons_zero, List.set_cons_succ])
          refine takeM 2 (v := ?_) rfl (by kernel_rfl) (by kernel_rfl) (by kernel_rfl) (by kernel_rfl) (fun _ _ _ h => h) (Or.inl ⟨by rfl, ?_⟩) (by assumption) (fun hTill => ?_)
          rotate_left
          · (intro w hSw; go_simp; try with_reducible rfl)
          (try simp only [Act.put, List.setIfInBounds_toArray, List.set_cons_zero, List.set_cons_succ])
          refine takeM 3 (v := ?_) rfl (by kernel_rfl) (by kernel_rfl) (by kernel_rfl) (by kernel_rfl) (fun _ _ _ h => h) (Or.inl ⟨by rfl, ?_⟩) (by assumption) (fun hTill => ?_)
          rotate_left
          · (intro w hSw; go_simp; try with_reducible rfl)
          (try simp only [Act.put, List.setIfInBounds_toArray, List.set_cons_zero, List.set_cons_succ])
          refine takeM 4 (v := ?_) rfl (by kernel_rfl) (by kernel_rfl) (by kernel_rfl) (by kernel_rfl) (fun _ _ _ h => h) (Or.inl ⟨by rfl, ?_⟩) (by assumption) (fun hTill => ?_)
          rotate_left
          · (intro w hSw; go_simp; try with_reducible rfl)
          (try simp only [Act.put, List.setIfInBounds_toArray, List.set_cons_zero, List.set_cons_succ])
          refine takeM 5 (v := ?_) rfl (by kernel_rfl) (by kernel_rfl) (by kernel_rfl) (by kernel_rfl) (fun _ _ _ h => h) (Or.inl ⟨by rfl, ?_⟩) (by assumption) (fun hTill => ?_)
          rotate_left
          · (intro w hSw; go_simp; try with_reducible rfl)
          (try simp only [Act.put, List.setIfInBounds_toArray, List.set_cons_zero, List.set_cons_succ])
          (generalize hzz : IntKind.u8.wrap _ = zz; have hbz : ∃ b : UInt8, zz = (b.toNat : Int) := by { rw [← hzz]; obtain ⟨b, hb⟩ := bv_wrap _; exact ⟨b, by simpa [bv] using hb⟩ }; obtain ⟨b, rfl⟩ := hbz; clear hzz)
          refine stepM 6 rfl (by kernel_rfl) (fun K hK => ?_)
          go_simp
          refine hK.out _ _ ?_ (fun hTill => ?_)
          · exact fun _ => (World.cell?_of_block (a := ⟨M + 1, 0, none⟩) (heap_alloc_old _ _ hltM)).trans hcv
          clear hK K
          (try simp only [Act.put, List.setIfInBounds_toArray, List.set_cons_zero, List.set_cons_succ])
          refine stepM 7 rfl (by kernel_rfl) (fun K hK => ?_)
          (refine step_append_rw _ (by rfl) _ _ 24 (by rfl) (M + 1 + 1) 5 i0 (.int .u8 0) 1 1 Try.underlying24 hi hz0 hz1 hz2 rfl (by decide) _ l7.length (l7.map bv) (by rfl) (owns_below hownd (one_alloc rfl).2.1) _ 1 [bv b] (by rfl) (rw_alloc 1 _ 1 [bv b] _ rfl (by decide)) (by intro u hu; simp at hu; subst hu; rfl) (by unfold maxLen; omega) (by omega) (by have := (one_alloc (w := wr.drew) (o1 := .cells #[bv b] 5) rfl).2.2; simp at this ⊢; omega) ?_; intro v8 w8 hown8 hg8; obtain ⟨av8, cv8, rfl, _⟩ := own_rw hown8; have hCa := (heap_alloc_old wr.drew (.cells #[bv b] 5) hltM).trans hCd; have hwa := owns_below hownd (one_alloc (w := wr.drew) (o1 := .cells #[bv b] 5) rfl).2.1; have ht8 := text_set hCa hwa hg8 hown8; have hcv8 : w8.cell? ⟨M + 1, 0, none⟩ = some (.slice av l7.length cv) := cell_of_block ht8.1 0; have htv8 := thawed ht8.1 0; have hC9 := Lib.hid ht8.2.1; have hown9 := Lib.hid ht8.2.2.1; have hb9 := Lib.hid ((hbd.alloc (o := .cells #[bv b] 5) (Nat.le_of_lt hltM)).trans ht8.2.2.2); clear ht8 hwa hCa)
          refine hK.out _ _ ?_ (fun hTill => ?_)
          · exact fun _ => hcv8
          clear hK K
          (try simp only [Act.put, List.setIfInBounds_toArray, List.set_cons_zero, List.set_cons_succ])
          refine stepM 8 rfl (by kernel_rfl) (fun K hK => ?_)
          go_simp
          refine hK.out _ _ ?_ (fun hTill => ?_)
          · exact till_over (by kernel_rfl)
          clear hK K
          (try simp only [Act.put, List.setIfInBounds_toArray, List.set_cons_zero, List.set_cons_succ])
          refine doneM (by kernel_rfl) ?_ _
          refine NoPanic.normal ?_
          clear hC hCd hown hownd hcv hcv8 htv8 hg8 hown8 hbd hb7
          go_wp2
          go_roundw
          case rel =>
            have h9 := hown9.out
            refine ⟨j + 1, by omega, congrArg (Value.int .i64) (by omega), l7 ++ [b], by simp; omega, ⟨_, hC9.out, ?_⟩, hb9.out⟩
            rw [List.map_append, List.length_append]
            exact h9
          case measure =>
            show 8 - ((j : Int) + 1).toNat < 8 - (j : Int).toNat
            omega
        · have HT7 := Lib.hid hT7
          have HB7 := Lib.hid hb7
          have HL7 := Lib.hid (show l7.length ≤ 20030 + 8 * (q + 1) from by omega)
          clear hT7 hb7 hl7
          go_wp2
          go_roundw
          case rel => exact ⟨q + 1, by omega, congrArg (Value.int .i64) (by omega), l7, HL7.out, HT7.out, HB7.out⟩
          case measure =>
            show 2 - ((q : Int) + 1).toNat < 2 - (q : Int).toNat
            omega
    · obtain ⟨v, hC, hown⟩ := hT6
      obtain ⟨av, cv, rfl, _⟩ := own_rw hown
      have hcv : wr.cell? ⟨M + 1, 0, none⟩ = some (.slice av l6.length cv) := cell_of_block hC 0
      have har : ∀ (B : Nat) (w : World), (Instr.arrayAt 55 (.slice (some ⟨B, 0, none⟩) 32 64)).run Try.prog w = .ok (.pointer (some ⟨B, 0, none⟩)) w := fun B w => by kernel_rfl
      obtain ⟨k32, hk32⟩ : ∃ k32, kb.take 32 = k32 := ⟨_, rfl⟩
      have hl32 : k32.length = 32 := by rw [← hk32, List.length_take, HKB.out]; rfl
      have hgm := hb6.block M (by omega)
      have gM6 := hgm.trans GM.out
      have gR6 := (hb6.block (N + 2) (by omega)).trans G33.out
      have gk : ∀ w, Same2 M (M + 1) wr w → w.rangeAt M 0 (k32.map bv) := fun w hw j u hj => by
        refine range_of_block (hw.1.trans gM6) j u ?_
        rw [← hk32, List.map_take, List.getElem?_take] at hj
        split at hj
        · exact hj
        · cases hj
      have gv : ∀ w, Same2 M (M + 1) wr w → w.cell? ⟨M + 1, 0, none⟩ = some (.slice av l6.length cv) := fun w hw => (World.cell?_of_block (a := ⟨M + 1, 0, none⟩) hw.2).trans hcv
      have hi32 : (Try.prog.info? 55).map (·.size) = some (k32.map bv).length := by rw [List.length_map, hl32]; kernel_rfl
      have hi16 : (Try.prog.info? 122).map (·.size) = some 16 := by kernel_rfl
      have hbt6 : Bt wr.drew (.slice av l6.length cv) l6 := (own_bt hown (by omega)).below (below_self_drew wr)
      have hltM := block_lt hC
      have hb6w : Below w.heap.size w wr := by rw [HN.out]; exact HB3.out.trans (hb6.mono (by omega))
      have HB6W := Lib.hid hb6w
      have HL32 := Lib.hid hl32
      have HL6 := Lib.hid hl6
      have hwr : N + 2 < wr.heap.size := by omega
      clear hown hC hgm hb6 hb6w hk32 hl32
      go_wp2_with fail
      refine wp_region_noPanic ?_
      refine wp_region_till (T := Same2 M (M + 1) wr) 5 (by kernel_rfl) ?_ (fun hTill => ?_)
      · exact ⟨rfl, rfl⟩
      refine takeM 0 (v := ?_) rfl (by kernel_rfl) (by kernel_rfl) (by kernel_rfl) (by kernel_rfl) (fun _ _ _ h => h) (Or.inl ⟨by rfl, ?_⟩) (by assumption) (fun hTill => ?_)
      rotate_left
      · (intro w hSw; go_simp; try with_reducible rfl)
      (try simp only [Act.put, List.setIfInBounds_toArray, List.set_cons_zero, List.set_cons_succ])
      refine takeM 1 (v := ?_) rfl (by kernel_rfl) (by kernel_rfl) (by kernel_rfl) (by kernel_rfl) (fun _ _ _ h => h) (Or.inl ⟨by rfl, ?_⟩) (by assumption) (fun hTill => ?_)
      rotate_left
      · (intro w hSw; go_simp; try with_reducible rfl)
      (try simp only [Act.put, List.setIfInBounds_toArray, List.set_cons_zero, List.set_cons_succ])
      refine takeT 2 (v := _) rfl (by kernel_rfl) (by kernel_rfl) (by kernel_rfl) (by kernel_rfl) (by kernel_rfl) (by kernel_rfl) (fun _ _ _ h => h) (yieldsIf_load_mid (by rfl) _ _ rfl _ _ rfl (k32.map bv) _ (fun w hSw => gk w hSw) Try.underlying55 rfl hi32) (by assumption) (fun hTill => ?_)
      (try simp only [Act.put, List.setIfInBounds_toArray, List.set_cons_zero, List.set_cons_succ])
      refine takeT 3 (v := ?_) rfl (by kernel_rfl) (by kernel_rfl) (by kernel_rfl) (by kernel_rfl) (by kernel_rfl) (by kernel_rfl) (fun _ _ _ h => h) (Or.inl ⟨by rfl, ?_⟩) (by assumption) (fun hTill => ?_)
      rotate_left
      · (intro w hSw; go_simp; try with_reducible rfl)
      (try simp only [Act.put, List.setIfInBounds_toArray, List.set_cons_zero, List.set_cons_succ])
      refine stepM 4 rfl (by kernel_rfl) (fun K hK => ?_)
      (go_simp; go_at_call 86; refine (sum_any k32 HL32.out _ l6 _ (by have := HL6.out; omega) hbt6).mono ?_; rintro e w10 ⟨⟨lt, hlt2, rfl⟩, hb10⟩)
      refine hK.out _ _ ?_ (fun hTill => ?_)
      · exact fun _ => ⟨hb10.block _ (show M < wr.drew.heap.size from (by simp; omega)), hb10.block _ hltM⟩
      clear hK K
      (try simp only [Act.put, List.setIfInBounds_toArray, List.set_cons_zero, List.set_cons_succ])
      refine stepM 5 rfl (by kernel_rfl) (fun K hK => ?_)
      (rw [if_pos (by rfl)]; refine wp_store_row 122 _ _ (by rfl) (N + 1 + 1) (lt.map bv).toArray (by rfl) (by rfl) 122 _ (blk_on (show wr.drew.heap[N + 2]? = _ from gR6) hb10) (by rw [show (lt.map bv).toArray.size = 16 from by simpa using hlt2]; exact hi16) (by rw [show (lt.map bv).toArray.size = 16 from by simpa using hlt2]; rfl) (bytes_one lt) ?_)
      refine hK.out _ _ ?_ (fun hTill => ?_)
      · exact till_over (by kernel_rfl)
      clear hK K
      (try simp only [Act.put, List.setIfInBounds_toArray, List.set_cons_zero, List.set_cons_succ])
      refine doneM (by kernel_rfl) ?_ _
      refine NoPanic.normal ?_
      have gR10 := blk_on (show wr.drew.heap[N + 2]? = _ from gR6) hb10
      have hbl := setRow_heap w10 (N + 2) _ (lt.map bv).toArray _ _ gR10
      have hb10w : Below wr.heap.size wr w10 := (below_self_drew wr).trans hb10
      have hbz := below_setRow (HB6W.out.trans (hb10w.mono HB6W.out.size)) (g := N + 2) (by rw [HN.out]; omega) (lt.map bv).toArray
      have HS6 := Lib.hid (show (lt.map bv).toArray.size = 16 from by simpa using hlt2)
      have HBZ := Lib.hid hbz
      have HLT := Lib.hid hlt2
      clear gk gv hbt6 hb10 hb10w hbz hlt2 gR6 gM6 har gR10
      go_wp2
      try simp only [Exit.inBlock, Exit.then]
      refine bodyPost_ret (results_cell_row rfl _ _ (N + 2) _ _ _ _ rfl hbl Try.underlying122 rfl (by rw [HS6.out]; exact hi16)) rfl ?_
      exact ⟨⟨lt, HLT.out, rfl⟩, HBZ.out⟩
end Go.Proofs.Ytdiokmaomglefaa
