/- Devices: own. -/
import Derived.Test.YtdiokmaomglefaaLOwn0
import Derived.Test.YtdiokmaomglefaaMR
namespace Go.Proofs.Ytdiokmaomglefaa
open Go Go.RowKit

theorem Laid.trans {w w2 w3 : World} {g : Nat} {cs cs' : Array Value} {t : TypeId} (h : Laid w g cs t w2) (h2 : Laid w2 g cs' t w3) : Laid w g cs' t w3 := ⟨h2.blk, h.bel.trans h2.bel, h2.size.trans h.size, fun k hk => (h2.rest k hk).trans (h.rest k hk)⟩
theorem DvO.less {X Y : List Nat} {w : World} {cs : List Value} {d : Dv} (h : DvO X w cs d) (hs : ∀ y ∈ Y, y ∈ X) : DvO Y w cs d := by
  have hm : ∀ {v l}, BtO X w v l → BtO Y w v l := fun hb => ⟨hb.1, fun hne b o n c hv hx => hb.2 hne b o n c hv (hs b hx)⟩
  obtain ⟨v, r0, r1, f0, f1, h0, ⟨vs, ⟨h1, h2⟩, h3, h4⟩, c0, c1, c2, c3⟩ := h
  exact ⟨v, r0, r1, f0, f1, h0, ⟨vs, ⟨h1, fun j z u hz hu => hm (h2 j z u hz hu)⟩, h3, fun hne b o n c hv hx => h4 hne b o n c hv (hs b hx)⟩, hm c0, hm c1, hm c2, hm c3⟩
theorem DvO.add2 {X Y : List Nat} {w : World} {cs : List Value} {d : Dv} (h : DvO Y w cs d) (hX : ∀ x ∈ X, w.heap.size ≤ x ∨ x ∈ Y) : DvO X w cs d := by
  obtain ⟨v, r0, r1, f0, f1, h0, ⟨vs, ⟨h1, h2⟩, h3, h4⟩, c0, c1, c2, c3⟩ := h
  refine ⟨v, r0, r1, f0, f1, h0, ⟨vs, ⟨h1, fun j z u hz hu => (h2 j z u hz hu).add hX⟩, h3, fun hne b o n c hv hx => ?_⟩, c0.add hX, c1.add hX, c2.add hX, c3.add hX⟩
  have h5 := h4 hne b o n c hv
  subst hv
  obtain ⟨a', cap', e, _, _, _, _, hc⟩ := h3
  cases e
  obtain ⟨b', off', e, hlt, _⟩ := hc (by intro h; exact hne (List.eq_nil_of_length_eq_zero h))
  cases e
  rcases hX b hx with h6 | h6
  · omega
  · exact h5 h6
/-- What stands between two rounds of own. -/
structure OwnLoop (base : Nat) (X : List Nat) (D Z E cap : Nat) (ez : Obj) (vs : List Value) (r0 r1 f0 f1 : Value) (d : Dv) (w wr : World) : Prop where
  own : OwnAt base X D Z cap vs r0 r1 f0 f1 d wr
  bel : Below base w wr
  res : wr.heap[E]? = some ez
set_option linter.unusedSimpArgs false in
set_option maxRecDepth 100000 in
set_option maxHeartbeats 4000000 in
theorem own_any (Y : List Nat) (d : Dv) (cs : List Value) (w0 w : World) (h : DvO Y w0 cs d) (hb0 : Below w0.heap.size w0 w) (hz0 : 0 < d.zs.length) (hz1 : d.zs.length ≤ 1000000) (g : Nat) (lb : Array Value) (eg : ∀ args w, (callFunc g args).run Try.prog w = .ok (.enter g args) w)
    (X0 : List Nat) (hX0 : ∀ x ∈ X0, (w0.heap.size ≤ x ∨ x ∈ Y) ∧ x < w.heap.size) (J : Dv → World → Prop) (hJ : ∀ d' a b, J d' a → (∀ k ∈ X0, b.heap[k]? = a.heap[k]?) → J d' b)
    (hcl : ∀ (D Z E cap : Nat) (vs : List Value) (r0 r1 f0 f1 : Value) (w1 : World), w.heap.size ≤ D → w.heap.size ≤ E → D ≠ E → Z ≠ E → w.heap.size ≤ Z → E < w1.heap.size → Below w.heap.size w w1 → OwnAt w.heap.size ([D, Z, E] ++ X0) D Z cap vs r0 r1 f0 f1 d w1 →
      Calls Try.prog g (#[.pointer (some ⟨D, 0, none⟩)] ++ lb) w1 fun e w' => e = .returned (.tuple #[]) ∧ Below w0.heap.size w1 w' ∧ w'.heap[E]? = w1.heap[E]? ∧ ∃ vs' q0 q1 g0 g1 d', OwnAt w.heap.size ([D, Z, E] ++ X0) D Z cap vs' q0 q1 g0 g1 d' w' ∧ J d' w') :
    Calls Try.prog 27 #[.agg cs.toArray, .func (.func g) #[] lb] w fun e w' => (∃ cs' d', e = .returned (.agg cs'.toArray) ∧ DvO X0 w' cs' d' ∧ J d' w') ∧ Below w0.heap.size w w' := by
  obtain ⟨vz, r0, r1, f0, f1, rfl, ⟨vs, ⟨hvl, hvd⟩, hzr, hzx⟩, c0, c1, c2, c3⟩ := h
  clear hzx
  obtain ⟨az, cz, rfl⟩ := (show ∃ a c, vz = .slice a d.zs.length c from by obtain ⟨a, c, e, _⟩ := hzr; exact ⟨a, c, e⟩)
  obtain ⟨b, off, rfl, hblt, hbr⟩ := hzr.where hz0
  have hone : ∀ u ∈ zcs d.zs vs, u.oneCell' = true := zcs_one _ _ (fun u hu => by
    obtain ⟨j, hj, rfl⟩ := List.getElem_of_mem hu
    obtain ⟨a, c, e⟩ := (hvd j d.zs[j] vs[j] (List.getElem?_eq_getElem _) (List.getElem?_eq_getElem _)).open
    rw [e]
    rfl)
  have HCL := Lib.hid hcl
  have HJ := Lib.hid hJ
  have HX := Lib.hid hX0
  have HVD := Lib.hid hvd
  have HZR := Lib.hid hzr
  have HON := Lib.hid hone
  clear hcl hJ hX0 hvd hzr hbr hone
  unfold dcs
  go_enter Try.func27, Try.ntmps27
  go_wp2_with fail
  refine calls_world (fun wa e0 => ?_)
  obtain ⟨gD, gE, hba, hsa⟩ := two_alloc e0
  clear e0
  have hb0a : Below w0.heap.size w0 wa := hb0.trans (hba.mono hb0.size)
  refine (zclone_any ⟨b, off, none⟩ d.zs.length cz (zcs d.zs vs) wa (HZR.out.below hb0a) HON.out hz0 hz1).mono ?_
  rintro e wb ⟨⟨v, rfl, hrow⟩, hbb⟩
  obtain ⟨Z, cap, rfl, hZ⟩ : ∃ Z cap, v = .slice (some ⟨Z, 0, none⟩) d.zs.length cap ∧ wa.heap.size ≤ Z := by
    obtain ⟨_, h0 | ⟨g, c, cur, e, hg, _⟩⟩ := hrow
    · omega
    · exact ⟨g, c, e, hg⟩
  have gD2 := blk_on gD hbb
  have gE2 := blk_on gE hbb
  obtain ⟨D, hD⟩ : ∃ D, w.heap.size = D := ⟨_, rfl⟩
  rw [hD] at gD2 gE2 hsa ⊢
  have L3 := set_cell (j := 1) gD2 (.slice (some ⟨Z, 0, none⟩) d.zs.length cap)
  have k3 : wb.cell? ⟨D, 1, none⟩ = some (.slice (some ⟨b, off, none⟩) d.zs.length cz) := (cell_of_block gD2 1).trans rfl
  have z3 := thawed gD2
  have hsz0 := hb0.size
  have hXX : ∀ x ∈ [D, Z, D + 1] ++ X0, w0.heap.size ≤ x ∨ x ∈ Y := by
    intro x hx
    have := HX.out x
    simp only [List.mem_append, List.mem_cons, List.not_mem_nil, or_false] at hx
    rcases hx with (rfl | rfl | rfl) | hx
    · exact Or.inl (by omega)
    · exact Or.inl (by omega)
    · exact Or.inl (by omega)
    · exact (this hx).1
  have hA0 : Away ([D, Z, D + 1] ++ X0) w0 (wb.setCell ⟨D, 1, none⟩ (.slice (some ⟨Z, 0, none⟩) d.zs.length cap)) := (Away.of_below (hb0a.trans (hbb.mono hb0a.size))).trans (Away.set _ _ (by simp))
  have O1 : OwnAt D ([D, Z, D + 1] ++ X0) D Z cap vs r0 r1 f0 f1 d (wb.setCell ⟨D, 1, none⟩ (.slice (some ⟨Z, 0, none⟩) d.zs.length cap)) :=
    ⟨L3.blk, owns_base (own_on hrow (fun k hk => L3.rest k (by omega))) (by omega), hvl, fun j z u hz hu => ((HVD.out j z u hz hu).add hXX).away hA0, (c0.add hXX).away hA0, (c1.add hXX).away hA0, (c2.add hXX).away hA0, (c3.add hXX).away hA0⟩
  have hbl : Below D w (wb.setCell ⟨D, 1, none⟩ (.slice (some ⟨Z, 0, none⟩) d.zs.length cap)) := (hD ▸ hba).trans ((hbb.mono (by omega)).trans L3.bel)
  have OL : OwnLoop D ([D, Z, D + 1] ++ X0) D Z (D + 1) cap _ vs r0 r1 f0 f1 d w (wb.setCell ⟨D, 1, none⟩ (.slice (some ⟨Z, 0, none⟩) d.zs.length cap)) := ⟨O1, hbl, (L3.rest (D + 1) (by omega)).trans gE2⟩
  obtain ⟨oz, hoz⟩ : ∃ o, o = Obj.cells #[Value.int .i64 0, .slice none 0 0, .slice none 0 0, .slice none 0 0, .slice none 0 0, .slice none 0 0, .bool false, .int .i64 0, .int .i64 0, .int .i64 0] 27 := ⟨_, rfl⟩
  rw [← hoz] at OL
  have hDZ : D + 2 ≤ Z := by omega
  have HOL := Lib.hid OL
  have HOZ := Lib.hid hoz
  clear gD gE hba hsa hb0a hrow hbb gD2 gE2 L3 hA0 O1 hbl OL hoz c0 c1 c2 c3 hvl
  have g3 : (wb.setCell ⟨D, 1, none⟩ (.slice (some ⟨Z, 0, none⟩) d.zs.length cap)).cell? ⟨D, 1, none⟩ = some (.slice (some ⟨Z, 0, none⟩) d.zs.length cap) := World.cell?_setCell_same' _ _ _ (by rw [k3]; rfl)
  go_wp2_with fail
  go_loopw [5, 14] (fun _ i wr => ∃ j : Nat, j ≤ d.zs.length ∧ i = .int .i64 j ∧ ∃ vs, OwnLoop D ([D, Z, D + 1] ++ X0) D Z (D + 1) cap oz vs r0 r1 f0 f1 d w wr) (fun _ i _ => d.zs.length - (intOf i).toNat)
  case atStart => exact ⟨0, by omega, rfl, vs, HOL.out⟩
  case round =>
    clear k3 z3 g3 HOL
    obtain ⟨j, hj, rfl, vs, HO⟩ := hrel
    by_cases hlt : j < d.zs.length
    · have hz : d.zs[j]? = some d.zs[j] := List.getElem?_eq_getElem hlt
      have hjv : j < vs.length := by rw [HO.own.len]; exact hlt
      have hbt := HO.own.dat j _ vs[j] hz (List.getElem?_eq_getElem hjv)
      obtain ⟨q0, q1, q2⟩ := zcs_at d.zs vs HO.own.len j _ _ hz (List.getElem?_eq_getElem hjv)
      generalize hy : d.zs[j] = z at hz hbt q0 q2
      obtain ⟨a2, c2, hvj⟩ := hbt.open
      rw [hvj] at hbt q1
      have hl9 := hbt.1.len.2.2.2
      have cD : wr.cell? ⟨D, 1, none⟩ = some (.slice (some ⟨Z, 0, none⟩) d.zs.length cap) := (cell_of_block HO.own.blk 1).trans rfl
      have cZ : wr.cell? ⟨Z, j * 3 + 1, none⟩ = some (.slice a2 z.data.length c2) := (HO.own.row.cellAt (j * 3 + 1) (by omega)).trans q1
      have fZ := HO.own.row.frozenAt (j * 3 + 1)
      have lD := World.block_lt_of_cell? _ _ cD
      have lZ := World.block_lt_of_cell? _ _ cZ
      have gD : ∀ w', Below wr.heap.size wr w' → w'.cell? ⟨D, 1, none⟩ = some (.slice (some ⟨Z, 0, none⟩) d.zs.length cap) := fun w' h => (h.cell (p := ⟨D, 1, none⟩) lD).trans cD
      have gZ : ∀ w', Below wr.heap.size wr w' → w'.cell? ⟨Z, j * 3 + 1, none⟩ = some (.slice a2 z.data.length c2) := fun w' h => (h.cell (p := ⟨Z, j * 3 + 1, none⟩) lZ).trans cZ
      have GF : Hid (∀ w', Below wr.heap.size wr w' → w'.frozen? ⟨Z, j * 3 + 1, none⟩ = false) := Lib.hid (fun w' h => (h.frozen (p := ⟨Z, j * 3 + 1, none⟩) lZ).trans fZ)
      have HH := Lib.hid HO
      have HY := Lib.hid hy
      have HVJ := Lib.hid hvj
      have HBT := Lib.hid hbt
      have i1 : (0 : Int) ≤ (j : Int) := by omega
      have i2 : (j : Int) < (d.zs.length : Int) := by omega
      clear HO hy hvj hz q0 q1 q2 cD cZ fZ lD lZ hbt
      go_wp2_with fail
      refine wp_region_noPanic ?_
      refine wp_region_till (T := Below wr.heap.size wr) 12 (by kernel_rfl) ?_ (fun hTill => ?_)
      · exact below_self_drew wr
      refine takeM 0 (v := ?_) rfl (by kernel_rfl) (by kernel_rfl) (by kernel_rfl) (by kernel_rfl) (fun _ _ _ h => h) (Or.inl ⟨by rfl, ?_⟩) (by assumption) (fun hTill => ?_)
      rotate_left
      · (intro w hSw; go_simp; try with_reducible rfl)
      (try simp only [Act.put, List.setIfInBounds_toArray, List.set_cons_zero, List.set_cons_succ])
      refine takeT 1 (v := ?_) rfl (by kernel_rfl) (by kernel_rfl) (by kernel_rfl) (by kernel_rfl) (by kernel_rfl) (by kernel_rfl) (fun _ _ _ h => h) (Or.inl ⟨by rfl, ?_⟩) (by assumption) (fun hTill => ?_)
      rotate_left
      · (intro w hSw; go_simp; try with_reducible rfl)
      (try simp only [Act.put, List.setIfInBounds_toArray, List.set_cons_zero, List.set_cons_succ])
      refine takeM 2 (v := ?_) rfl (by kernel_rfl) (by kernel_rfl) (by kernel_rfl) (by kernel_rfl) (fun _ _ _ h => h) (Or.inl ⟨by rfl, ?_⟩) (by assumption) (fun hTill => ?_)
      rotate_left
      · (intro w hSw; go_simp; try with_reducible rfl)
      (try simp only [Act.put, List.setIfInBounds_toArray, List.set_cons_zero, List.set_cons_succ])
      refine takeM 3 (v := ?_) rfl (by kernel_rfl) (by kernel_rfl) (by kernel_rfl) (by kernel_rfl) (fun _ _ _ h => h) (Or.inl ⟨by rfl, ?_⟩) (by assumption) (fun hTill => ?_)
      rotate_left
      · (intro w hSw; go_simp; try with_reducible rfl)
      (try simp only [Act.put, List.setIfInBounds_toArray, List.set_cons_zero, List.set_cons_succ])
      refine takeT 4 (v := ?_) rfl (by kernel_rfl) (by kernel_rfl) (by kernel_rfl) (by kernel_rfl) (by kernel_rfl) (by kernel_rfl) (fun _ _ _ h => h) (Or.inl ⟨by rfl, ?_⟩) (by assumption) (fun hTill => ?_)
      rotate_left
      · (intro w hSw; go_simp; try with_reducible rfl)
      (try simp only [Act.put, List.setIfInBounds_toArray, List.set_cons_zero, List.set_cons_succ])
      refine takeM 5 (v := ?_) rfl (by kernel_rfl) (by kernel_rfl) (by kernel_rfl) (by kernel_rfl) (fun _ _ _ h => h) (Or.inl ⟨by rfl, ?_⟩) (by assumption) (fun hTill => ?_)
      rotate_left
      · (intro w hSw; go_simp; try with_reducible rfl)
      (try simp only [Act.put, List.setIfInBounds_toArray, List.set_cons_zero, List.set_cons_succ])
      refine takeM 6 (v := ?_) rfl (by kernel_rfl) (by kernel_rfl) (by kernel_rfl) (by kernel_rfl) (fun _ _ _ h => h) (Or.inl ⟨by rfl, ?_⟩) (by assumption) (fun hTill => ?_)
      rotate_left
      · (intro w hSw; go_simp; try with_reducible rfl)
      (try simp only [Act.put, List.setIfInBounds_toArray, List.set_cons_zero, List.set_cons_succ])
      refine takeM 7 (v := ?_) rfl (by kernel_rfl) (by kernel_rfl) (by kernel_rfl) (by kernel_rfl) (fun _ _ _ h => h) (Or.inl ⟨by rfl, ?_⟩) (by assumption) (fun hTill => ?_)
      rotate_left
      · (intro w hSw; go_simp; try with_reducible rfl)
      (try simp only [Act.put, List.setIfInBounds_toArray, List.set_cons_zero, List.set_cons_succ])
      refine takeT 8 (v := ?_) rfl (by kernel_rfl) (by kernel_rfl) (by kernel_rfl) (by kernel_rfl) (by kernel_rfl) (by kernel_rfl) (fun _ _ _ h => h) (Or.inl ⟨by rfl, ?_⟩) (by assumption) (fun hTill => ?_)
      rotate_left
      · (intro w hSw; go_simp; try with_reducible rfl)
      (try simp only [Act.put, List.setIfInBounds_toArray, List.set_cons_zero, List.set_cons_succ])
      refine stepM 9 rfl (by kernel_rfl) (fun K hK => ?_)
      (go_simp; go_at_call 47; refine (bclone_any a2 z.data.length c2 z.data wr.drew (HBT.out.1.below (Below.refl _ wr).drew)).mono ?_; rintro e w5 ⟨⟨v5, rfl, hv5⟩, hb5⟩; obtain ⟨a5, c5, rfl, _⟩ := own_bt hv5 hl9; have hb6 : Below wr.heap.size wr w5 := (Below.refl _ wr).drew.trans hb5; have k5 := gZ w5 hb6; have z5 := GF.out w5 hb6)
      refine hK.out _ _ ?_ (fun hTill => ?_)
      · exact fun _ => hb6
      clear hK K
      (try simp only [Act.put, List.setIfInBounds_toArray, List.set_cons_zero, List.set_cons_succ])
      refine takeM 10 (v := ?_) rfl (by kernel_rfl) (by kernel_rfl) (by kernel_rfl) (by kernel_rfl) (fun _ _ _ h => h) (Or.inl ⟨by rfl, ?_⟩) (by assumption) (fun hTill => ?_)
      rotate_left
      · (intro w hSw; go_simp; try with_reducible rfl)
      (try simp only [Act.put, List.setIfInBounds_toArray, List.set_cons_zero, List.set_cons_succ])
      refine takeM 11 (v := ?_) rfl (by kernel_rfl) (by kernel_rfl) (by kernel_rfl) (by kernel_rfl) (fun _ _ _ h => h) (Or.inl ⟨by rfl, ?_⟩) (by assumption) (fun hTill => ?_)
      rotate_left
      · (intro w hSw; go_simp; try with_reducible rfl)
      (try simp only [Act.put, List.setIfInBounds_toArray, List.set_cons_zero, List.set_cons_succ])
      refine stepM 12 rfl (by kernel_rfl) (fun K hK => ?_)
      go_simp
      refine hK.out _ _ ?_ (fun hTill => ?_)
      · exact till_over (by kernel_rfl)
      clear hK K
      (try simp only [Act.put, List.setIfInBounds_toArray, List.set_cons_zero, List.set_cons_succ])
      refine doneM (by kernel_rfl) ?_ _
      refine NoPanic.normal ?_
      have HO := HH.out
      have hlX : ∀ x ∈ [D, Z, D + 1] ++ X0, x < wr.heap.size := by
        intro x hx
        have h1 := HX.out x
        have h2 := HO.bel.size
        have h3 := block_lt HO.own.blk
        have h4 := block_lt HO.res
        have h5 := (HO.own.row.lt Z rfl).2
        simp only [List.mem_append, List.mem_cons, List.not_mem_nil, or_false] at hx
        rcases hx with (rfl | rfl | rfl) | hx
        · exact h3
        · exact h5
        · exact h4
        · have := (h1 hx).2
          omega
      have hvo : BtO ([D, Z, D + 1] ++ X0) w5 (.slice a5 z.data.length c5) z.data := BtO.own hv5 hl9 hlX
      have O5 := HO.own.below hb6
      have st := (O5.row.stored (j * 3 + 1) (.slice a5 z.data.length c5)).1
      rw [← zcs_setv d.zs vs O5.len j _ hlt] at st
      have hdat : ∀ (k : Nat) (y : Zn) (u : Value), d.zs[k]? = some y → (vs.set j (.slice a5 z.data.length c5))[k]? = some u → BtO ([D, Z, D + 1] ++ X0) w5 u y.data := by
        intro k y u hk hu
        by_cases e : j = k
        · subst e
          rw [List.getElem?_eq_getElem hlt, HY.out] at hk
          cases hk
          rw [List.getElem?_set_self (by rw [O5.len]; exact hlt)] at hu
          cases hu
          exact hvo
        · rw [List.getElem?_set_ne e] at hu
          exact O5.dat k y u hk hu
      have O6 := O5.onZ (w2 := w5.setCell ⟨Z, j * 3 + 1, none⟩ (.slice a5 z.data.length c5)) (by simp) (vs.set j (.slice a5 z.data.length c5)) d rfl ⟨rfl, rfl, rfl, rfl⟩ rfl (by rw [List.length_set]; exact O5.len) st (by simp) (fun k hk => heap_setCell_other w5 ⟨Z, j * 3 + 1, none⟩ k _ (by simpa using hk)) hdat
      have hres : (w5.setCell ⟨Z, j * 3 + 1, none⟩ (.slice a5 z.data.length c5)).heap[D + 1]? = some oz := (heap_setCell_other w5 ⟨Z, j * 3 + 1, none⟩ (D + 1) _ (by simp; omega)).trans (blk_on HO.res hb6)
      have hbe : Below D w (w5.setCell ⟨Z, j * 3 + 1, none⟩ (.slice a5 z.data.length c5)) := HO.bel.trans ((hb6.mono (by have := HO.bel.size; omega)).trans ((Below.refl D w5).setCell (p := ⟨Z, j * 3 + 1, none⟩) (by simp; omega) _))
      have HOL := Lib.hid (OwnLoop.mk O6 hbe hres)
      clear HO hlX hvo O5 st hdat O6 hres hbe k5 z5 gD gZ GF HBT
      go_wp2
      go_roundw
      case rel => exact ⟨j + 1, by omega, congrArg (Value.int .i64) (by omega), _, HOL.out⟩
      case measure =>
        show d.zs.length - ((j : Int) + 1).toNat < d.zs.length - (j : Int).toNat
        omega
    · obtain rfl : j = d.zs.length := by omega
      have HOL := Lib.hid HO
      clear HO
      go_wp2_with fail
      go_loopw [6, 30] (fun _ i wr => ∃ q : Int, (q = 0 ∨ q = 1 ∨ q = 2) ∧ i = .int .i64 q ∧ ∃ r0 r1 f0 f1, OwnLoop D ([D, Z, D + 1] ++ X0) D Z (D + 1) cap oz vs r0 r1 f0 f1 d w wr) (fun _ i _ => 2 - (intOf i).toNat)
      case atStart => exact ⟨0, Or.inl rfl, rfl, _, _, _, _, HOL.out⟩
      case round =>
        clear HOL
        obtain ⟨q, hq, rfl, r0, r1, f0, f1, HO⟩ := hrel
        have hlX : ∀ x ∈ [D, Z, D + 1] ++ X0, x < wr.heap.size := by
          intro x hx
          have h1 := HX.out x
          have h2 := HO.bel.size
          have h3 := block_lt HO.own.blk
          have h4 := block_lt HO.res
          have h5 := (HO.own.row.lt Z rfl).2
          simp only [List.mem_append, List.mem_cons, List.not_mem_nil, or_false] at hx
          rcases hx with (rfl | rfl | rfl) | hx
          · exact h3
          · exact h5
          · exact h4
          · have := (h1 hx).2
            omega
        have HLX := Lib.hid hlX
        have HH := Lib.hid HO
        have cb := HO.own.blk
        have e0 := HO.own.b0
        have e1 := HO.own.b1
        have e2 := HO.own.b2
        have e3 := HO.own.b3
        clear HO hlX
        rcases hq with rfl | rfl | rfl
        · obtain ⟨a2, c2, h2⟩ := e0.open
          obtain ⟨a3, c3, h3⟩ := e2.open
          have k2 : wr.cell? ⟨D, 2, none⟩ = some r0 := (cell_of_block cb 2).trans rfl
          have k3 : wr.cell? ⟨D, 4, none⟩ = some f0 := (cell_of_block cb 4).trans rfl
          rw [h2] at e0 k2
          rw [h3] at e2 k3
          have hl2 := e0.1.len.2.2.2
          have hl3 := e2.1.len.2.2.2
          have lD : D < wr.heap.size := block_lt cb
          have g2 : ∀ w', Below wr.heap.size wr w' → w'.cell? ⟨D, 2, none⟩ = some (.slice a2 d.r0.length c2) := fun w' h => (h.cell (p := ⟨D, 2, none⟩) lD).trans k2
          have g3 : ∀ w', Below wr.heap.size wr w' → w'.cell? ⟨D, 4, none⟩ = some (.slice a3 d.f0.length c3) := fun w' h => (h.cell (p := ⟨D, 4, none⟩) lD).trans k3
          have HE0 := Lib.hid e0
          have HE1 := Lib.hid e1
          have HE2 := Lib.hid e2
          have HE3 := Lib.hid e3
          have H2 := Lib.hid h2
          have H3 := Lib.hid h3
          have HCB := Lib.hid cb
          clear e0 e1 e2 e3 h2 h3 k2 k3 cb lD
          go_wp2_with fail
          refine wp_region_noPanic ?_
          refine wp_region_till (T := Below wr.heap.size wr) 14 (by kernel_rfl) ?_ (fun hTill => ?_)
          · exact below_self_drew wr
          refine takeM 0 (v := ?_) rfl (by kernel_rfl) (by kernel_rfl) (by kernel_rfl) (by kernel_rfl) (fun _ _ _ h => h) (Or.inl ⟨by rfl, ?_⟩) (by assumption) (fun hTill => ?_)
          rotate_left
          · (intro w hSw; go_simp; try with_reducible rfl)
          (try simp only [Act.put, List.setIfInBounds_toArray, List.set_cons_zero, List.set_cons_succ])
          refine takeM 1 (v := ?_) rfl (by kernel_rfl) (by kernel_rfl) (by kernel_rfl) (by kernel_rfl) (fun _ _ _ h => h) (Or.inl ⟨by rfl, ?_⟩) (by assumption) (fun hTill => ?_)
          rotate_left
          · (intro w hSw; go_simp; try with_reducible rfl)
          (try simp only [Act.put, List.setIfInBounds_toArray, List.set_cons_zero, List.set_cons_succ])
          refine takeM 2 (v := ?_) rfl (by kernel_rfl) (by kernel_rfl) (by kernel_rfl) (by kernel_rfl) (fun _ _ _ h => h) (Or.inl ⟨by rfl, ?_⟩) (by assumption) (fun hTill => ?_)
          rotate_left
          · (intro w hSw; go_simp; try with_reducible rfl)
          (try simp only [Act.put, List.setIfInBounds_toArray, List.set_cons_zero, List.set_cons_succ])
          refine takeM 3 (v := ?_) rfl (by kernel_rfl) (by kernel_rfl) (by kernel_rfl) (by kernel_rfl) (fun _ _ _ h => h) (Or.inl ⟨by rfl, ?_⟩) (by assumption) (fun hTill => ?_)
          rotate_left
          · (intro w hSw; go_simp; try with_reducible rfl)
          (try simp only [Act.put, List.setIfInBounds_toArray, List.set_cons_zero, List.set_cons_succ])
          refine takeM 4 (v := ?_) rfl (by kernel_rfl) (by kernel_rfl) (by kernel_rfl) (by kernel_rfl) (fun _ _ _ h => h) (Or.inl ⟨by rfl, ?_⟩) (by assumption) (fun hTill => ?_)
          rotate_left
          · (intro w hSw; go_simp; try with_reducible rfl)
          (try simp only [Act.put, List.setIfInBounds_toArray, List.set_cons_zero, List.set_cons_succ])
          refine takeT 5 (v := ?_) rfl (by kernel_rfl) (by kernel_rfl) (by kernel_rfl) (by kernel_rfl) (by kernel_rfl) (by kernel_rfl) (fun _ _ _ h => h) (Or.inl ⟨by rfl, ?_⟩) (by assumption) (fun hTill => ?_)
          rotate_left
          · (intro w hSw; go_simp; try with_reducible rfl)
          (try simp only [Act.put, List.setIfInBounds_toArray, List.set_cons_zero, List.set_cons_succ])
          refine takeM 7 (v := ?_) rfl (by kernel_rfl) (by kernel_rfl) (by kernel_rfl) (by kernel_rfl) (fun _ _ _ h => h) (Or.inl ⟨by rfl, ?_⟩) (by assumption) (fun hTill => ?_)
          rotate_left
          · (intro w hSw; go_simp; try with_reducible rfl)
          (try simp only [Act.put, List.setIfInBounds_toArray, List.set_cons_zero, List.set_cons_succ])
          refine takeM 8 (v := ?_) rfl (by kernel_rfl) (by kernel_rfl) (by kernel_rfl) (by kernel_rfl) (fun _ _ _ h => h) (Or.inl ⟨by rfl, ?_⟩) (by assumption) (fun hTill => ?_)
          rotate_left
          · (intro w hSw; go_simp; try with_reducible rfl)
          (try simp only [Act.put, List.setIfInBounds_toArray, List.set_cons_zero, List.set_cons_succ])
          refine takeM 9 (v := ?_) rfl (by kernel_rfl) (by kernel_rfl) (by kernel_rfl) (by kernel_rfl) (fun _ _ _ h => h) (Or.inl ⟨by rfl, ?_⟩) (by assumption) (fun hTill => ?_)
          rotate_left
          · (intro w hSw; go_simp; try with_reducible rfl)
          (try simp only [Act.put, List.setIfInBounds_toArray, List.set_cons_zero, List.set_cons_succ])
          refine takeT 10 (v := ?_) rfl (by kernel_rfl) (by kernel_rfl) (by kernel_rfl) (by kernel_rfl) (by kernel_rfl) (by kernel_rfl) (fun _ _ _ h => h) (Or.inl ⟨by rfl, ?_⟩) (by assumption) (fun hTill => ?_)
          rotate_left
          · (intro w hSw; go_simp; try with_reducible rfl)
          (try simp only [Act.put, List.setIfInBounds_toArray, List.set_cons_zero, List.set_cons_succ])
          refine takeM 12 (v := ?_) rfl (by kernel_rfl) (by kernel_rfl) (by kernel_rfl) (by kernel_rfl) (fun _ _ _ h => h) (Or.inl ⟨by rfl, ?_⟩) (by assumption) (fun hTill => ?_)
          rotate_left
          · (intro w hSw; go_simp; try with_reducible rfl)
          (try simp only [Act.put, List.setIfInBounds_toArray, List.set_cons_zero, List.set_cons_succ])
          refine takeM 15 (v := ?_) rfl (by kernel_rfl) (by kernel_rfl) (by kernel_rfl) (by kernel_rfl) (fun _ _ _ h => h) (Or.inl ⟨by rfl, ?_⟩) (by assumption) (fun hTill => ?_)
          rotate_left
          · (intro w hSw; go_simp; try with_reducible rfl)
          (try simp only [Act.put, List.setIfInBounds_toArray, List.set_cons_zero, List.set_cons_succ])
          refine stepM 6 rfl (by kernel_rfl) (fun K hK => ?_)
          (go_simp; go_at_call 47; refine (bclone_any a2 d.r0.length c2 d.r0 wr.drew (HE0.out.1.below (Below.refl _ wr).drew)).mono ?_; rintro e w5 ⟨⟨v5, rfl, hv5⟩, hb5⟩; obtain ⟨a5, c5, rfl, _⟩ := own_bt hv5 hl2; have hb6 : Below wr.heap.size wr w5 := (Below.refl _ wr).drew.trans hb5)
          refine hK.out _ _ ?_ (fun hTill => ?_)
          · exact fun _ => hb6
          clear hK K
          (try simp only [Act.put, List.setIfInBounds_toArray, List.set_cons_zero, List.set_cons_succ])
          refine stepM 11 rfl (by kernel_rfl) (fun K hK => ?_)
          (go_simp; go_at_call 47; refine (bclone_any a3 d.f0.length c3 d.f0 w5 (HE2.out.1.below hb6)).mono ?_; rintro e w6 ⟨⟨v6, rfl, hv6⟩, hb7⟩; obtain ⟨a6, c6, rfl, _⟩ := own_bt hv6 hl3; have hb8 : Below wr.heap.size wr w6 := hb6.trans (hb7.mono hb6.size); have k5 := g2 w6 hb8; have k6 := g3 w6 hb8; have g8 := blk_on HCB.out hb8; have z8 := thawed g8; clear g2 g3)
          refine hK.out _ _ ?_ (fun hTill => ?_)
          · exact fun _ => hb8
          clear hK K
          (try simp only [Act.put, List.setIfInBounds_toArray, List.set_cons_zero, List.set_cons_succ])
          refine takeM 13 (v := ?_) rfl (by kernel_rfl) (by kernel_rfl) (by kernel_rfl) (by kernel_rfl) (fun _ _ _ h => h) (Or.inl ⟨by rfl, ?_⟩) (by assumption) (fun hTill => ?_)
          rotate_left
          · (intro w hSw; go_simp; try with_reducible rfl)
          (try simp only [Act.put, List.setIfInBounds_toArray, List.set_cons_zero, List.set_cons_succ])
          refine stepM 14 rfl (by kernel_rfl) (fun K hK => ?_)
          go_simp
          refine hK.out _ _ ?_ (fun hTill => ?_)
          · exact till_over (by kernel_rfl)
          clear hK K
          (try simp only [Act.put, List.setIfInBounds_toArray, List.set_cons_zero, List.set_cons_succ])
          refine takeM 16 (v := ?_) rfl (by kernel_rfl) (by kernel_rfl) (by kernel_rfl) (by kernel_rfl) (fun _ _ _ h => h) (Or.inl ⟨by rfl, ?_⟩) (by assumption) (fun hTill => ?_)
          rotate_left
          · (intro w hSw; go_simp; try with_reducible rfl)
          (try simp only [Act.put, List.setIfInBounds_toArray, List.set_cons_zero, List.set_cons_succ])
          refine stepM 17 rfl (by kernel_rfl) (fun K hK => ?_)
          go_simp
          refine hK.out _ _ ?_ (fun hTill => ?_)
          · exact till_over (by kernel_rfl)
          clear hK K
          (try simp only [Act.put, List.setIfInBounds_toArray, List.set_cons_zero, List.set_cons_succ])
          refine doneM (by kernel_rfl) ?_ _
          refine NoPanic.normal ?_
          have HO := HH.out
          have hvo : BtO ([D, Z, D + 1] ++ X0) w6 (.slice a5 d.r0.length c5) d.r0 := (BtO.own hv5 hl2 HLX.out).away (.of_below hb7)
          have huo : BtO ([D, Z, D + 1] ++ X0) w6 (.slice a6 d.f0.length c6) d.f0 := BtO.own hv6 hl3 (fun x hx => Nat.lt_of_lt_of_le (HLX.out x hx) hb6.size)
          have O5 := HO.own.below hb8
          have La := set_cell (j := 2) g8 (.slice a5 d.r0.length c5)
          have Lb := La.trans (set_cell (j := 4) La.blk (.slice a6 d.f0.length c6))
          have O6 := O5.onD (by simp) (.slice a5 d.r0.length c5) r1 (.slice a6 d.f0.length c6) f1 d rfl Lb rfl hvo O5.b1 huo O5.b3
          have hres := (Lb.rest (D + 1) (by omega)).trans (blk_on HO.res hb8)
          have hbe := HO.bel.trans ((hb8.mono (by have := HO.bel.size; omega)).trans Lb.bel)
          have HOL := Lib.hid (OwnLoop.mk O6 hbe hres)
          clear HO hvo huo O5 La Lb O6 hres hbe k5 k6 g8 z8 HE0 HE1 HE2 HE3 HCB
          go_wp2
          go_roundw
          case rel => exact ⟨1, Or.inr (Or.inl rfl), rfl, _, _, _, _, HOL.out⟩
          case measure => simp [intOf]
        · obtain ⟨a2, c2, h2⟩ := e1.open
          obtain ⟨a3, c3, h3⟩ := e3.open
          have k2 : wr.cell? ⟨D, 3, none⟩ = some r1 := (cell_of_block cb 3).trans rfl
          have k3 : wr.cell? ⟨D, 5, none⟩ = some f1 := (cell_of_block cb 5).trans rfl
          rw [h2] at e1 k2
          rw [h3] at e3 k3
          have hl2 := e1.1.len.2.2.2
          have hl3 := e3.1.len.2.2.2
          have lD : D < wr.heap.size := block_lt cb
          have g2 : ∀ w', Below wr.heap.size wr w' → w'.cell? ⟨D, 3, none⟩ = some (.slice a2 d.r1.length c2) := fun w' h => (h.cell (p := ⟨D, 3, none⟩) lD).trans k2
          have g3 : ∀ w', Below wr.heap.size wr w' → w'.cell? ⟨D, 5, none⟩ = some (.slice a3 d.f1.length c3) := fun w' h => (h.cell (p := ⟨D, 5, none⟩) lD).trans k3
          have HE0 := Lib.hid e0
          have HE1 := Lib.hid e1
          have HE2 := Lib.hid e2
          have HE3 := Lib.hid e3
          have H2 := Lib.hid h2
          have H3 := Lib.hid h3
          have HCB := Lib.hid cb
          clear e0 e1 e2 e3 h2 h3 k2 k3 cb lD
          go_wp2_with fail
          refine wp_region_noPanic ?_
          refine wp_region_till (T := Below wr.heap.size wr) 14 (by kernel_rfl) ?_ (fun hTill => ?_)
          · exact below_self_drew wr
          refine takeM 0 (v := ?_) rfl (by kernel_rfl) (by kernel_rfl) (by kernel_rfl) (by kernel_rfl) (fun _ _ _ h => h) (Or.inl ⟨by rfl, ?_⟩) (by assumption) (fun hTill => ?_)
          rotate_left
          · (intro w hSw; go_simp; try with_reducible rfl)
          (try simp only [Act.put, List.setIfInBounds_toArray, List.set_cons_zero, List.set_cons_succ])
          refine takeM 1 (v := ?_) rfl (by kernel_rfl) (by kernel_rfl) (by kernel_rfl) (by kernel_rfl) (fun _ _ _ h => h) (Or.inl ⟨by rfl, ?_⟩) (by assumption) (fun hTill => ?_)
          rotate_left
          · (intro w hSw; go_simp; try with_reducible rfl)
          (try simp only [Act.put, List.setIfInBounds_toArray, List.set_cons_zero, List.set_cons_succ])
          refine takeM 2 (v := ?_) rfl (by kernel_rfl) (by kernel_rfl) (by kernel_rfl) (by kernel_rfl) (fun _ _ _ h => h) (Or.inl ⟨by rfl, ?_⟩) (by assumption) (fun hTill => ?_)
          rotate_left
          · (intro w hSw; go_simp; try with_reducible rfl)
          (try simp only [Act.put, List.setIfInBounds_toArray, List.set_cons_zero, List.set_cons_succ])
          refine takeM 3 (v := ?_) rfl (by kernel_rfl) (by kernel_rfl) (by kernel_rfl) (by kernel_rfl) (fun _ _ _ h => h) (Or.inl ⟨by rfl, ?_⟩) (by assumption) (fun hTill => ?_)
          rotate_left
          · (intro w hSw; go_simp; try with_reducible rfl)
          (try simp only [Act.put, List.setIfInBounds_toArray, List.set_cons_zero, List.set_cons_succ])
          refine takeM 4 (v := ?_) rfl (by kernel_rfl) (by kernel_rfl) (by kernel_rfl) (by kernel_rfl) (fun _ _ _ h => h) (Or.inl ⟨by rfl, ?_⟩) (by assumption) (fun hTill => ?_)
          rotate_left
          · (intro w hSw; go_simp; try with_reducible rfl)
          (try simp only [Act.put, List.setIfInBounds_toArray, List.set_cons_zero, List.set_cons_succ])
          refine takeT 5 (v := ?_) rfl (by kernel_rfl) (by kernel_rfl) (by kernel_rfl) (by kernel_rfl) (by kernel_rfl) (by kernel_rfl) (fun _ _ _ h => h) (Or.inl ⟨by rfl, ?_⟩) (by assumption) (fun hTill => ?_)
          rotate_left
          · (intro w hSw; go_simp; try with_reducible rfl)
          (try simp only [Act.put, List.setIfInBounds_toArray, List.set_cons_zero, List.set_cons_succ])
          refine takeM 7 (v := ?_) rfl (by kernel_rfl) (by kernel_rfl) (by kernel_rfl) (by kernel_rfl) (fun _ _ _ h => h) (Or.inl ⟨by rfl, ?_⟩) (by assumption) (fun hTill => ?_)
          rotate_left
          · (intro w hSw; go_simp; try with_reducible rfl)
          (try simp only [Act.put, List.setIfInBounds_toArray, List.set_cons_zero, List.set_cons_succ])
          refine takeM 8 (v := ?_) rfl (by kernel_rfl) (by kernel_rfl) (by kernel_rfl) (by kernel_rfl) (fun _ _ _ h => h) (Or.inl ⟨by rfl, ?_⟩) (by assumption) (fun hTill => ?_)
          rotate_left
          · (intro w hSw; go_simp; try with_reducible rfl)
          (try simp only [Act.put, List.setIfInBounds_toArray, List.set_cons_zero, List.set_cons_succ])
          refine takeM 9 (v := ?_) rfl (by kernel_rfl) (by kernel_rfl) (by kernel_rfl) (by kernel_rfl) (fun _ _ _ h => h) (Or.inl ⟨by rfl, ?_⟩) (by assumption) (fun hTill => ?_)
          rotate_left
          · (intro w hSw; go_simp; try with_reducible rfl)
          (try simp only [Act.put, List.setIfInBounds_toArray, List.set_cons_zero, List.set_cons_succ])
          refine takeT 10 (v := ?_) rfl (by kernel_rfl) (by kernel_rfl) (by kernel_rfl) (by kernel_rfl) (by kernel_rfl) (by kernel_rfl) (fun _ _ _ h => h) (Or.inl ⟨by rfl, ?_⟩) (by assumption) (fun hTill => ?_)
          rotate_left
          · (intro w hSw; go_simp; try with_reducible rfl)
          (try simp only [Act.put, List.setIfInBounds_toArray, List.set_cons_zero, List.set_cons_succ])
          refine takeM 12 (v := ?_) rfl (by kernel_rfl) (by kernel_rfl) (by kernel_rfl) (by kernel_rfl) (fun _ _ _ h => h) (Or.inl ⟨by rfl, ?_⟩) (by assumption) (fun hTill => ?_)
          rotate_left
          · (intro w hSw; go_simp; try with_reducible rfl)
          (try simp only [Act.put, List.setIfInBounds_toArray, List.set_cons_zero, List.set_cons_succ])
          refine takeM 15 (v := ?_) rfl (by kernel_rfl) (by kernel_rfl) (by kernel_rfl) (by kernel_rfl) (fun _ _ _ h => h) (Or.inl ⟨by rfl, ?_⟩) (by assumption) (fun hTill => ?_)
          rotate_left
          · (intro w hSw; go_simp; try with_reducible rfl)
          (try simp only [Act.put, List.setIfInBounds_toArray, List.set_cons_zero, List.set_cons_succ])
          refine stepM 6 rfl (by kernel_rfl) (fun K hK => ?_)
          (go_simp; go_at_call 47; refine (bclone_any a2 d.r1.length c2 d.r1 wr.drew (HE1.out.1.below (Below.refl _ wr).drew)).mono ?_; rintro e w5 ⟨⟨v5, rfl, hv5⟩, hb5⟩; obtain ⟨a5, c5, rfl, _⟩ := own_bt hv5 hl2; have hb6 : Below wr.heap.size wr w5 := (Below.refl _ wr).drew.trans hb5)
          refine hK.out _ _ ?_ (fun hTill => ?_)
          · exact fun _ => hb6
          clear hK K
          (try simp only [Act.put, List.setIfInBounds_toArray, List.set_cons_zero, List.set_cons_succ])
          refine stepM 11 rfl (by kernel_rfl) (fun K hK => ?_)
          (go_simp; go_at_call 47; refine (bclone_any a3 d.f1.length c3 d.f1 w5 (HE3.out.1.below hb6)).mono ?_; rintro e w6 ⟨⟨v6, rfl, hv6⟩, hb7⟩; obtain ⟨a6, c6, rfl, _⟩ := own_bt hv6 hl3; have hb8 : Below wr.heap.size wr w6 := hb6.trans (hb7.mono hb6.size); have k5 := g2 w6 hb8; have k6 := g3 w6 hb8; have g8 := blk_on HCB.out hb8; have z8 := thawed g8; clear g2 g3)
          refine hK.out _ _ ?_ (fun hTill => ?_)
          · exact fun _ => hb8
          clear hK K
          (try simp only [Act.put, List.setIfInBounds_toArray, List.set_cons_zero, List.set_cons_succ])
          refine takeM 13 (v := ?_) rfl (by kernel_rfl) (by kernel_rfl) (by kernel_rfl) (by kernel_rfl) (fun _ _ _ h => h) (Or.inl ⟨by rfl, ?_⟩) (by assumption) (fun hTill => ?_)
          rotate_left
          · (intro w hSw; go_simp; try with_reducible rfl)
          (try simp only [Act.put, List.setIfInBounds_toArray, List.set_cons_zero, List.set_cons_succ])
          refine stepM 14 rfl (by kernel_rfl) (fun K hK => ?_)
          go_simp
          refine hK.out _ _ ?_ (fun hTill => ?_)
          · exact till_over (by kernel_rfl)
          clear hK K
          (try simp only [Act.put, List.setIfInBounds_toArray, List.set_cons_zero, List.set_cons_succ])
          refine takeM 16 (v := ?_) rfl (by kernel_rfl) (by kernel_rfl) (by kernel_rfl) (by kernel_rfl) (fun _ _ _ h => h) (Or.inl ⟨by rfl, ?_⟩) (by assumption) (fun hTill => ?_)
          rotate_left
          · (intro w hSw; go_simp; try with_reducible rfl)
          (try simp only [Act.put, List.setIfInBounds_toArray, List.set_cons_zero, List.set_cons_succ])
          refine stepM 17 rfl (by kernel_rfl) (fun K hK => ?_)
          go_simp
          refine hK.out _ _ ?_ (fun hTill => ?_)
          · exact till_over (by kernel_rfl)
          clear hK K
          (try simp only [Act.put, List.setIfInBounds_toArray, List.set_cons_zero, List.set_cons_succ])
          refine doneM (by kernel_rfl) ?_ _
          refine NoPanic.normal ?_
          have HO := HH.out
          have hvo : BtO ([D, Z, D + 1] ++ X0) w6 (.slice a5 d.r1.length c5) d.r1 := (BtO.own hv5 hl2 HLX.out).away (.of_below hb7)
          have huo : BtO ([D, Z, D + 1] ++ X0) w6 (.slice a6 d.f1.length c6) d.f1 := BtO.own hv6 hl3 (fun x hx => Nat.lt_of_lt_of_le (HLX.out x hx) hb6.size)
          have O5 := HO.own.below hb8
          have La := set_cell (j := 3) g8 (.slice a5 d.r1.length c5)
          have Lb := La.trans (set_cell (j := 5) La.blk (.slice a6 d.f1.length c6))
          have O6 := O5.onD (by simp) r0 (.slice a5 d.r1.length c5) f0 (.slice a6 d.f1.length c6) d rfl Lb rfl O5.b0 hvo O5.b2 huo
          have hres := (Lb.rest (D + 1) (by omega)).trans (blk_on HO.res hb8)
          have hbe := HO.bel.trans ((hb8.mono (by have := HO.bel.size; omega)).trans Lb.bel)
          have HOL := Lib.hid (OwnLoop.mk O6 hbe hres)
          clear HO hvo huo O5 La Lb O6 hres hbe k5 k6 g8 z8 HE0 HE1 HE2 HE3 HCB
          go_wp2
          go_roundw
          case rel => exact ⟨2, Or.inr (Or.inr rfl), rfl, _, _, _, _, HOL.out⟩
          case measure => simp [intOf]
        · have HO := HH.out
          have hcl := HCL.out D Z (D + 1) cap vs r0 r1 f0 f1 wr (by omega) (by omega) (by omega) (by omega) (by omega) (block_lt HO.res) (by rw [hD]; exact HO.bel) (by rw [hD]; exact HO.own)
          have HR := Lib.hid HO.res
          have HB := Lib.hid HO.bel
          have hi10 : (Try.prog.info? 27).map (·.size) = some 10 := by kernel_rfl
          clear e0 e1 e2 e3 cb HLX HO
          go_wp2_with fail
          refine hcl.mono ?_
          rintro e w5 ⟨rfl, hb5, hE5, vs', q0, q1, g0, g1, d', O5, hJ5⟩
          clear hcl
          have hr5 := hE5.trans HR.out
          rw [HOZ.out] at hr5
          have hb6 : Below w0.heap.size w w5 := (HB.out.mono (by omega)).trans hb5
          have DO := O5.out (Y := (D + 1) :: X0) (by intro y hy; simp only [List.mem_cons, List.mem_append, List.not_mem_nil, or_false] at hy ⊢; rcases hy with h | h; exact Or.inl (Or.inr (Or.inr h)); exact Or.inr h) (by
            intro hx
            rcases List.mem_cons.1 hx with h | h
            · omega
            · have := (HX.out Z h).2
              omega)
          have hDv := (show ∃ a0 k0 a1 k1 a2 k2 a3 k3, q0 = .slice a0 d'.r0.length k0 ∧ q1 = .slice a1 d'.r1.length k1 ∧ g0 = .slice a2 d'.f0.length k2 ∧ g1 = .slice a3 d'.f1.length k3 from by
            obtain ⟨a0, k0, h0⟩ := O5.b0.open
            obtain ⟨a1, k1, h1⟩ := O5.b1.open
            obtain ⟨a2, k2, h2⟩ := O5.b2.open
            obtain ⟨a3, k3, h3⟩ := O5.b3.open
            exact ⟨a0, k0, a1, k1, a2, k2, a3, k3, h0, h1, h2, h3⟩)
          obtain ⟨a0, k0, a1, k1, a2, k2, a3, k3, rfl, rfl, rfl, rfl⟩ := hDv
          have r5 := range_of_block O5.blk
          have hone : (dcs d' (.slice (some ⟨Z, 0, none⟩) d'.zs.length cap) (.slice a0 d'.r0.length k0) (.slice a1 d'.r1.length k1) (.slice a2 d'.f0.length k2) (.slice a3 d'.f1.length k3)).toArray.all (·.oneCell') = true := by
            simp [dcs]
            exact ⟨rfl, rfl, rfl, rfl, rfl, rfl, rfl, rfl, rfl, rfl⟩
          have HDO := Lib.hid DO
          have HJ5 := Lib.hid hJ5
          clear O5 DO hJ5 hb5 hE5 HR HB HOZ HH
          go_wp2_with (first
            | refine wpList_load_at (by rfl) 27 (.tmp 2) rfl D 0 (by rfl) (dcs d' (.slice (some ⟨Z, 0, none⟩) d'.zs.length cap) (.slice a0 d'.r0.length k0) (.slice a1 d'.r1.length k1) (.slice a2 d'.f0.length k2) (.slice a3 d'.f1.length k3)) _ r5 Try.underlying27 rfl hi10 ?_
            | (refine wpList_lay (by rfl) 27 (.tmp 4) (.tmp 52) rfl (D + 1) (dcs d' (.slice (some ⟨Z, 0, none⟩) d'.zs.length cap) (.slice a0 d'.r0.length k0) (.slice a1 d'.r1.length k1) (.slice a2 d'.f0.length k2) (.slice a3 d'.f1.length k3)).toArray (by rfl) (by rfl) 27 _ hr5 10 hi10 rfl rfl hone ?_; intro w9 hL9))
          try simp only [Exit.inBlock, Exit.then]
          refine bodyPost_ret (results_cell_row rfl _ _ (D + 1) _ _ _ _ rfl hL9.blk Try.underlying27 rfl (by kernel_rfl)) rfl ?_
          exact ⟨⟨_, d', rfl, (HDO.out.away (Away.laid hL9 (by simp))).less (fun y hy => List.mem_cons_of_mem _ hy), HJ.out d' w5 w9 HJ5.out (fun k hk => hL9.rest k (by have := (HX.out k hk).2; omega))⟩, hb6.trans (hL9.bel.mono (by omega))⟩
end Go.Proofs.Ytdiokmaomglefaa
