/- LogFull: the walk. -/
import Derived.Test.YtdiokmaomglefaaLAwake
import Derived.Test.YtdiokmaomglefaaLFill
import Derived.Test.YtdiokmaomglefaaLSame
import Derived.Laws.MakeOwn
namespace Go.Proofs.Ytdiokmaomglefaa
open Go Go.RowKit

/-- What an append of a text of zeros holds on its way: the text, and the variable that is laid for its device. -/
structure Mq (Y : List Nat) (d : Dv) (cs : List Value) (b : List UInt8) (wr : World) (v p : Option Nat) (w : World) : Prop where
  bel : Below wr.heap.size wr w
  dev : DvO (p.toList ++ Y) w cs d
  txt : ∀ g, v = some g → Bt w (.slice (some ⟨g, 0, none⟩) b.length b.length) b
  blk : ∀ q, p = some q → wr.heap.size ≤ q ∧ w.heap[q]? = some (.cells #[.int .i64 0, .slice none 0 0, .slice none 0 0, .slice none 0 0, .slice none 0 0, .slice none 0 0, .bool false, .int .i64 0, .int .i64 0, .int .i64 0] 27)
structure Nq (Y : List Nat) (d : Dv) (cs : List Value) (b : List UInt8) (wr : World) (p : Option Nat) (cs' : List Value) (dl : Dv) (zr ar : Int) (nd : Nat) (er : Int) (w : World) : Prop where
  bel : Below wr.heap.size wr w
  dev : DvO (p.toList ++ Y) w cs' dl
  app : App d b dl zr ar nd er
  err : er = 1 ∨ er = 160 → cs' = cs
  blk : ∀ q, p = some q → wr.heap.size ≤ q ∧ w.heap[q]? = some (.cells #[.int .i64 0, .slice none 0 0, .slice none 0 0, .slice none 0 0, .slice none 0 0, .slice none 0 0, .bool false, .int .i64 0, .int .i64 0, .int .i64 0] 27)
theorem Mq.start {Y : List Nat} {d : Dv} {cs : List Value} {b : List UInt8} {wr : World} (h : DvO Y wr cs d) : Mq Y d cs b wr none none wr.drew :=
  ⟨below_self_drew wr, h.below (below_self_drew wr), (fun g e => by cases e), (fun q e => by cases e)⟩
theorem Mq.make {Y : List Nat} {d : Dv} {cs : List Value} {b : List UInt8} {wr w w1 : World} {p : Option Nat} (h : Mq Y d cs b wr none p w) (hl : b.length ≤ 140737488355328 := by omega) (e : w1 = w.alloc (.cells (b.map bv).toArray 5)) : Mq Y d cs b wr (some w.heap.size) p w1 := by
  obtain ⟨g, hb, _⟩ := one_alloc e
  exact ⟨h.bel.trans (hb.mono h.bel.size), h.dev.below hb, (fun q hq => by cases hq; exact bt_block g hl), fun q hq => ⟨(h.blk q hq).1, blk_on (h.blk q hq).2 hb⟩⟩
theorem dvo_new {Y : List Nat} {d : Dv} {cs : List Value} {w w1 : World} {o : Obj} (h : DvO Y w cs d) (e : w1 = w.alloc o) : DvO ([w.heap.size] ++ Y) w1 cs d := by
  obtain ⟨_, hb, _⟩ := one_alloc e
  refine (h.add2 (X := [w.heap.size] ++ Y) ?_).below hb
  intro x hx
  rcases List.mem_append.1 hx with h1 | h1
  · exact .inl (by simp at h1; omega)
  · exact .inr h1
theorem Mq.var {Y : List Nat} {d : Dv} {cs : List Value} {b : List UInt8} {wr w w1 : World} {v : Option Nat} (h : Mq Y d cs b wr v none w) (e : w1 = w.alloc (.cells #[.int .i64 0, .slice none 0 0, .slice none 0 0, .slice none 0 0, .slice none 0 0, .slice none 0 0, .bool false, .int .i64 0, .int .i64 0, .int .i64 0] 27)) : Mq Y d cs b wr v (some w.heap.size) w1 := by
  obtain ⟨g, hb, _⟩ := one_alloc e
  exact ⟨h.bel.trans (hb.mono h.bel.size), dvo_new h.dev e, fun q hq => (h.txt q hq).below hb, fun q hq => by cases hq; exact ⟨h.bel.size, g⟩⟩
theorem Nq.var {Y : List Nat} {d : Dv} {cs : List Value} {b : List UInt8} {wr w w1 : World} {cs' : List Value} {dl : Dv} {zr ar : Int} {nd : Nat} {er : Int} (h : Nq Y d cs b wr none cs' dl zr ar nd er w) (e : w1 = w.alloc (.cells #[.int .i64 0, .slice none 0 0, .slice none 0 0, .slice none 0 0, .slice none 0 0, .slice none 0 0, .bool false, .int .i64 0, .int .i64 0, .int .i64 0] 27)) : Nq Y d cs b wr (some w.heap.size) cs' dl zr ar nd er w1 := by
  obtain ⟨g, hb, _⟩ := one_alloc e
  exact ⟨h.bel.trans (hb.mono h.bel.size), dvo_new h.dev e, h.app, h.err, fun q hq => by cases hq; exact ⟨h.bel.size, g⟩⟩
theorem Mq.append {Y : List Nat} {d : Dv} {cs : List Value} {b : List UInt8} {wr w : World} {g : Nat} {p : Option Nat} (h : Mq Y d cs b wr (some g) p w) (hY : ∀ y ∈ Y, y < wr.heap.size) (free : Free d) (hne : 0 < b.length) :
    Calls Try.prog 10 #[.agg cs.toArray, .slice (some ⟨g, 0, none⟩) b.length b.length] w fun e w' => ∃ cs' dl zr ar nd er a c, e = .returned (.tuple #[.agg cs'.toArray, .int .i64 zr, .int .i64 ar, .slice a nd c, .int .i64 er]) ∧ Nq Y d cs b wr p cs' dl zr ar nd er w' := by
  refine (app_any (p.toList ++ Y) d cs b ⟨g, 0, none⟩ b.length w h.dev ?_ free (h.txt g rfl) hne).mono ?_
  · intro y hy
    rcases List.mem_append.1 hy with h1 | h1
    · cases p with
      | none => simp at h1
      | some q =>
        simp at h1
        subst h1
        exact block_lt (h.blk y rfl).2
    · exact Nat.lt_of_lt_of_le (hY y h1) h.bel.size
  · rintro e w' ⟨⟨cs', dl, zr, ar, nd, er, a, c, rfl, hd, hA, hE⟩, hb⟩
    exact ⟨cs', dl, zr, ar, nd, er, a, c, rfl, h.bel.trans (hb.mono h.bel.size), hd, hA, hE, fun q hq => ⟨(h.blk q hq).1, blk_on (h.blk q hq).2 hb⟩⟩
theorem Nq.ten2 {Y : List Nat} {d : Dv} {cs : List Value} {b : List UInt8} {wr w : World} {p : Option Nat} {cs' : List Value} {dl : Dv} {zr ar : Int} {nd : Nat} {er : Int} (h : Nq Y d cs b wr p cs' dl zr ar nd er w) : (10 : Nat) = cs'.toArray.size := h.dev.is.ten.symm
theorem Nq.ten' {Y : List Nat} {d : Dv} {cs : List Value} {b : List UInt8} {wr w : World} {p : Option Nat} {cs' : List Value} {dl : Dv} {zr ar : Int} {nd : Nat} {er : Int} (h : Nq Y d cs b wr p cs' dl zr ar nd er w) : (Try.prog.info? 27).map (·.size) = some cs'.toArray.size := by
  rw [h.dev.is.ten]
  kernel_rfl
theorem Nq.one {Y : List Nat} {d : Dv} {cs : List Value} {b : List UInt8} {wr w : World} {p : Option Nat} {cs' : List Value} {dl : Dv} {zr ar : Int} {nd : Nat} {er : Int} (h : Nq Y d cs b wr p cs' dl zr ar nd er w) : cs'.toArray.all (·.oneCell') = true := h.dev.is.one
/-- Behind an append: the device stands in a variable of its own. -/
def AppR (Y : List Nat) (d : Dv) (cs : List Value) (b : List UInt8) (wr : World) (v1 v2 v3 v4 v5 : Value) (w : World) : Prop :=
  ∃ q cs' dl zr ar nd er a c, v1 = .pointer (some ⟨q, 0, none⟩) ∧ v2 = .int .i64 zr ∧ v3 = .int .i64 ar ∧ v4 = .slice a nd c ∧ v5 = .int .i64 er ∧ wr.heap.size ≤ q ∧ w.heap[q]? = some (.cells cs'.toArray 27 (0, 0)) ∧
    DvO Y w cs' dl ∧ App d b dl zr ar nd er ∧ (er = 1 ∨ er = 160 → cs' = cs) ∧ Below wr.heap.size wr w
theorem Nq.done {Y : List Nat} {d : Dv} {cs : List Value} {b : List UInt8} {wr w : World} {q : Nat} {cs' : List Value} {dl : Dv} {zr ar : Int} {nd : Nat} {er : Int} {a : Option Addr} {c : Nat} (h : Nq Y d cs b wr (some q) cs' dl zr ar nd er w) :
    AppR Y d cs b wr (.pointer (some ⟨q, 0, none⟩)) (.int .i64 zr) (.int .i64 ar) (.slice a nd c) (.int .i64 er) (w.setRow q cs'.toArray) := by
  obtain ⟨h1, h2⟩ := h.blk q rfl
  have L : Laid w q cs'.toArray 27 (w.setRow q cs'.toArray) := laid_setRow h2
  exact ⟨q, cs', dl, zr, ar, nd, er, a, c, rfl, rfl, rfl, rfl, rfl, h1, L.blk, (h.dev.away (Away.laid L (by simp))).less (fun y hy => List.mem_append_right _ hy), h.app, h.err, h.bel.trans (L.bel.mono h1)⟩
theorem u8_nat (a : Int) (h : (Lit.int .u8 a).wf = true) : ∃ n : Nat, a = n ∧ n ≤ 255 := by
  have h2 := bounds_u8 h
  exact ⟨a.toNat, by omega, by omega⟩
theorem zeros_made (k : Nat) : (madeCells (Value.int .u8 0).cells (k * 1)) = ((List.replicate k (0 : UInt8)).map bv).toArray := by
  apply Array.ext
  · simp [madeCells]
  · intro i h1 h2
    simp [madeCells, Value.cells, bv, Nat.mod_one]
theorem cut7 {P : Program} {c : Code} {Q : Exit → Act → World → Prop} {a : Act} {w : World} (R : Value → Value → Value → Value → Value → World → Prop)
    (h1 : c.wp P (fun e a' w' => e = .normal ∧ ∃ u40 u41 u42 u43 u44 u45 u46 u47 u48 u49 v11 v12 v13 v14 v15 : Value, a' = (((((((((((((((a.put (some 40) u40).put (some 41) u41).put (some 42) u42).put (some 43) u43).put (some 44) u44).put (some 45) u45).put (some 46) u46).put (some 47) u47).put (some 48) u48).put (some 49) u49).put (some 11) v11).put (some 12) v12).put (some 13) v13).put (some 14) v14).put (some 15) v15) ∧ R v11 v12 v13 v14 v15 w') a w)
    (h2 : ∀ (u40 u41 u42 u43 u44 u45 u46 u47 u48 u49 v11 v12 v13 v14 v15 : Value) (w' : World), R v11 v12 v13 v14 v15 w' → Q .normal (((((((((((((((a.put (some 40) u40).put (some 41) u41).put (some 42) u42).put (some 43) u43).put (some 44) u44).put (some 45) u45).put (some 46) u46).put (some 47) u47).put (some 48) u48).put (some 49) u49).put (some 11) v11).put (some 12) v12).put (some 13) v13).put (some 14) v14).put (some 15) v15) w') : c.wp P Q a w := by
  refine Code.wp_mono ?_ h1
  rintro e a' w' ⟨rfl, u40, u41, u42, u43, u44, u45, u46, u47, u48, u49, v11, v12, v13, v14, v15, rfl, hR⟩
  exact h2 _ _ _ _ _ _ _ _ _ _ _ _ _ _ _ _ hR
theorem cut15 {P : Program} {c : Code} {Q : Exit → Act → World → Prop} {a : Act} {w : World} (R : Value → Value → Value → Value → Value → World → Prop)
    (h1 : c.wp P (fun e a' w' => e = .normal ∧ ∃ u72 u73 u74 u75 u76 u77 u78 u79 u80 u81 v19 v20 v21 v22 v23 : Value, a' = (((((((((((((((a.put (some 72) u72).put (some 73) u73).put (some 74) u74).put (some 75) u75).put (some 76) u76).put (some 77) u77).put (some 78) u78).put (some 79) u79).put (some 80) u80).put (some 81) u81).put (some 19) v19).put (some 20) v20).put (some 21) v21).put (some 22) v22).put (some 23) v23) ∧ R v19 v20 v21 v22 v23 w') a w)
    (h2 : ∀ (u72 u73 u74 u75 u76 u77 u78 u79 u80 u81 v19 v20 v21 v22 v23 : Value) (w' : World), R v19 v20 v21 v22 v23 w' → Q .normal (((((((((((((((a.put (some 72) u72).put (some 73) u73).put (some 74) u74).put (some 75) u75).put (some 76) u76).put (some 77) u77).put (some 78) u78).put (some 79) u79).put (some 80) u80).put (some 81) u81).put (some 19) v19).put (some 20) v20).put (some 21) v21).put (some 22) v22).put (some 23) v23) w') : c.wp P Q a w := by
  refine Code.wp_mono ?_ h1
  rintro e a' w' ⟨rfl, u72, u73, u74, u75, u76, u77, u78, u79, u80, u81, v19, v20, v21, v22, v23, rfl, hR⟩
  exact h2 _ _ _ _ _ _ _ _ _ _ _ _ _ _ _ _ hR
set_option linter.unusedSimpArgs false in
set_option linter.unusedVariables false in
set_option maxRecDepth 100000 in
set_option maxHeartbeats 8000000 in
theorem logFull_walk (a0 a1 : Int) (w0 : (Lit.int .u8 a0).wf = true) (w1 : (Lit.int .u8 a1).wf = true) (w : World) :
    Calls Try.prog 3 #[.int .u8 a0, .int .u8 a1] w fun e w' => e = .returned (.bool true) ∧ Below w.heap.size w w' := by
  have hi10 : (Try.prog.info? 27).map (·.size) = some 10 := by kernel_rfl
  obtain ⟨i0, hi, hz0, hz1, hz2⟩ := info_parts info_u8
  obtain ⟨x0, rfl, hx0⟩ := u8_nat a0 w0
  obtain ⟨x1, rfl, hx1⟩ := u8_nat a1 w1
  clear w0 w1
  obtain ⟨k, hk⟩ : ∃ k, k = 1 + x0 % 100 := ⟨_, rfl⟩
  obtain ⟨Z, hZ⟩ : ∃ Z, Z = 1 + x1 % 10 := ⟨_, rfl⟩
  go_enter Try.func3, Try.ntmps3
  go_wp2_with fail
  refine (awake_any w).mono ?_
  rintro e w1 ⟨rfl, hb1⟩
  go_wp2_with fail
  have hkI : (1 + (x0 : Int) % 100) = (k : Int) := by omega
  have hZI : (1 + (x1 : Int) % 10) = (Z : Int) := by omega
  have hk1 : 1 ≤ k := by omega
  have hk2 : k ≤ 100 := by omega
  have hZ1 : 1 ≤ Z := by omega
  have hZ2 : Z ≤ 10 := by omega
  rw [hkI, hZI]
  have HKI := Lib.hid hkI
  have HZI := Lib.hid hZI
  clear hk hZ hkI hZI hx0 hx1
  refine (new_any [] Z 200 hZ1 (by omega) (by omega) (by omega) w1 (by simp)).mono ?_
  rintro e w2 ⟨⟨cd, rfl, hd2⟩, hb2⟩
  have hten := hd2.is.ten
  have hone := hd2.is.one
  have hdD : DvO [w2.heap.size] w2 cd (newD Z 200) := hd2.add2 (fun x hx => .inl (by simp at hx; omega))
  have HB2 := Lib.hid (hb1.trans (hb2.mono hb1.size))
  have HD2 := Lib.hid hdD
  clear hd2 hdD hb1 hb2
  go_wp2_with (first
    | (refine wpList_lay (by rfl) 27 (.tmp 8) (.tmp 36) (by rfl) w2.heap.size cd.toArray (by rfl) (by rfl) _ _ (heap_alloc_new w2 _) 10 hi10 hten (by rfl) hone ?_
       intro w3 hL3
       have HL3 := Lib.hid hL3
       clear hL3)
    | fail)
  obtain ⟨D, hD⟩ : ∃ D, w2.heap.size = D := ⟨_, rfl⟩
  have hb23 : Below w2.heap.size w2 w3 := ((Below.refl _ w2).alloc (Nat.le_refl _) _).trans HL3.out.bel
  have HB3 := Lib.hid (HB2.out.trans (hb23.mono HB2.out.size))
  have HD3 := Lib.hid (HD2.out.below hb23)
  have HG3 := Lib.hid HL3.out.blk
  have HDw := Lib.hid (show w.heap.size ≤ w2.heap.size from HB2.out.size)
  rw [hD] at HD3 HG3 HDw ⊢
  clear hb23 HL3 HD2 HB2 hone hten hD
  have hfill := new_fill Z k hZ1 hZ2 hk1 hk2
  obtain ⟨b, hb⟩ : ∃ b : List UInt8, b = List.replicate k 0 := ⟨_, rfl⟩
  have hbl : b.length = k := by rw [hb, List.length_replicate]
  have hne : 0 < b.length := by omega
  have hq0 : 0 < 200 / k := by have := hfill.cq; omega
  have hmk : ∀ wz : World, (Instr.makeSlice 24 (.int .i64 (k : Int)) (.int .i64 (k : Int))).run Try.prog wz = .ok (.slice (some ⟨wz.heap.size, 0, none⟩) b.length b.length) (wz.alloc (.cells (b.map bv).toArray 5)) := fun wz => by
    have h := run_make (P := Try.prog) wz 24 5 i0 (.int .u8 0) Try.underlying24 hi hz0 .i64 .i64 (k : Int) (k : Int) (by omega) (by omega) (by rw [hz2]; omega) (by omega)
    rw [h, Int.toNat_natCast, hz1, zeros_made, ← hb, hbl]
  have HBB := Lib.hid hbl
  have hbm : b.length ≤ 140737488355328 := by omega
  clear hb hbl
  go_loopw [10, 11, 12, 13, 14, 15, 16] (fun m _ _ _ _ _ _ wr => ∃ (i c : Nat) (d : Dv) (cs : List Value), m = .int .i64 ((i * (200 / k) + c : Nat) : Int) ∧ Fill Z k i c d ∧ wr.heap[D]? = some (.cells cs.toArray 27 (0, 0)) ∧ DvO [D] wr cs d ∧ Below w.heap.size w wr)
    (fun m _ _ _ _ _ _ _ => 3000 - (intOf m).toNat)
  case atStart => exact ⟨0, 0, newD Z 200, cd, by simp, hfill, HG3.out, HD3.out, HB3.out⟩
  case round =>
    obtain ⟨i, c, d, cs, rfl, hF, hgD, hdv, hbr⟩ := hrel
    have hiq : i * (200 / k) ≤ 10 * 200 := Nat.mul_le_mul (by have := hF.iz; omega) (Nat.div_le_self _ _)
    have hcq := hF.cq
    have hq200 : 200 / k ≤ 200 := Nat.div_le_self _ _
    obtain ⟨M, hMM⟩ : ∃ M, i * (200 / k) + c = M := ⟨_, rfl⟩
    have hMl : M < 3000 := by omega
    rw [hMM]
    have HMM := Lib.hid hMM
    have hlt : decide ((M : Int) < 3000) = true := decide_eq_true (by omega)
    have e1 : IntKind.i64.wrap ((M : Int) + 1) = (M : Int) + 1 := IntWalk.i64_in _ (by omega)
    have rdev := range_of_block (cs := cs) hgD
    have hDl := block_lt hgD
    have hlcs : (Try.prog.info? 27).map (·.size) = some cs.length := by rw [hi10, ← hdv.is.ten]; rfl
    have hYb : ∀ y ∈ [D], y < wr.heap.size := by intro y hy; simp at hy; omega
    have hM : Mq [D] d cs b wr none none wr.drew := Mq.start hdv
    have free := hF.free
    have HF := Lib.hid hF
    have HGD := Lib.hid hgD
    have HBR := Lib.hid hbr
    clear hiq hcq hq200 hMM hF hgD hbr
    go_wp2
    refine cut7 (AppR [D] d cs b wr) ?_ ?_
    · refine wp_region_noPanic ?_
      refine wp_region_held_drew (S := (fun wz => Below wr.heap.size wr wz)) (by kernel_rfl) ?_ (fun hHeld => ?_)
      · exact below_self_drew _
      refine takeL 0 (v := _) rfl (by kernel_rfl) (by kernel_rfl) (by kernel_rfl) (fun _ _ _ h => h) (yieldsIf_load_mid (by rfl) _ _ rfl _ _ rfl cs _ (fun w hSw => range_below rdev hSw hDl) Try.underlying27 rfl hlcs) (by assumption) ?_
      (try simp only [Act.put, List.setIfInBounds_toArray, List.set_cons_zero, List.set_cons_succ])
      refine takeL 1 (v := ?_) rfl (by kernel_rfl) (by kernel_rfl) (by kernel_rfl) (fun _ _ _ h => h) (Or.inl ⟨by rfl, ?_⟩) (by assumption) ?_
      rotate_left
      · (intro w hSw; go_simp; try with_reducible rfl)
      (try simp only [Act.put, List.setIfInBounds_toArray, List.set_cons_zero, List.set_cons_succ])
      refine wpAnyH_ready (rs := [2, 10]) (by kernel_rfl) (by simp) ?_
      refine consL 2 rfl ?_ (fun K hK => ?_)
      rotate_left
      · skip
        go_simp
        refine hK.out _ _ ?_ (fun hHeld => ?_)
        · exact hM.bel.alloc hM.bel.size _
        clear hK K
        (try simp only [Act.put, List.setIfInBounds_toArray, List.set_cons_zero, List.set_cons_succ])
        (refine anyH_world (fun w1 e1 => ?_); replace hM := hM.make (by omega) e1; clear e1)
        refine wpAnyH_ready (rs := [3, 10]) (by kernel_rfl) (by simp) ?_
        refine consL 3 rfl ?_ (fun K hK => ?_)
        rotate_left
        · skip
          (go_simp; go_at_call 10; refine (hM.append hYb free hne).mono ?_; rintro e w1 ⟨cs', dl, zr, ar, nd, er, ac, cc, rfl, hM1⟩; replace hM := hM1)
          refine hK.out _ _ ?_ (fun hHeld => ?_)
          · exact hM.bel
          clear hK K
          (try simp only [Act.put, List.setIfInBounds_toArray, List.set_cons_zero, List.set_cons_succ])
          refine takeL 4 (v := ?_) rfl (by kernel_rfl) (by kernel_rfl) (by kernel_rfl) (fun _ _ _ h => h) (Or.inl ⟨by rfl, ?_⟩) (by assumption) ?_
          rotate_left
          · (intro w hSw; go_simp; try with_reducible rfl)
          (try simp only [Act.put, List.setIfInBounds_toArray, List.set_cons_zero, List.set_cons_succ])
          refine takeL 5 (v := ?_) rfl (by kernel_rfl) (by kernel_rfl) (by kernel_rfl) (fun _ _ _ h => h) (Or.inl ⟨by rfl, ?_⟩) (by assumption) ?_
          rotate_left
          · (intro w hSw; go_simp; try with_reducible rfl)
          (try simp only [Act.put, List.setIfInBounds_toArray, List.set_cons_zero, List.set_cons_succ])
          refine takeL 6 (v := ?_) rfl (by kernel_rfl) (by kernel_rfl) (by kernel_rfl) (fun _ _ _ h => h) (Or.inl ⟨by rfl, ?_⟩) (by assumption) ?_
          rotate_left
          · (intro w hSw; go_simp; try with_reducible rfl)
          (try simp only [Act.put, List.setIfInBounds_toArray, List.set_cons_zero, List.set_cons_succ])
          refine takeL 7 (v := ?_) rfl (by kernel_rfl) (by kernel_rfl) (by kernel_rfl) (fun _ _ _ h => h) (Or.inl ⟨by rfl, ?_⟩) (by assumption) ?_
          rotate_left
          · (intro w hSw; go_simp; try with_reducible rfl)
          (try simp only [Act.put, List.setIfInBounds_toArray, List.set_cons_zero, List.set_cons_succ])
          refine takeL 8 (v := ?_) rfl (by kernel_rfl) (by kernel_rfl) (by kernel_rfl) (fun _ _ _ h => h) (Or.inl ⟨by rfl, ?_⟩) (by assumption) ?_
          rotate_left
          · (intro w hSw; go_simp; try with_reducible rfl)
          (try simp only [Act.put, List.setIfInBounds_toArray, List.set_cons_zero, List.set_cons_succ])
          refine takeL 9 (v := ?_) rfl (by kernel_rfl) (by kernel_rfl) (by kernel_rfl) (fun _ _ _ h => h) (Or.inl ⟨by rfl, ?_⟩) (by assumption) ?_
          rotate_left
          · (intro w hSw; go_simp; try with_reducible rfl)
          (try simp only [Act.put, List.setIfInBounds_toArray, List.set_cons_zero, List.set_cons_succ])
          refine stepL 10 rfl (by kernel_rfl) (fun K hK => ?_)
          go_simp
          refine hK.out _ _ ?_ (fun hHeld => ?_)
          · exact hM.bel.alloc hM.bel.size _
          clear hK K
          (try simp only [Act.put, List.setIfInBounds_toArray, List.set_cons_zero, List.set_cons_succ])
          (refine anyH_world (fun w1 e1 => ?_); replace hM := hM.var e1; clear e1)
          refine stepL 11 rfl (by kernel_rfl) (fun K hK => ?_)
          (rw [if_pos (by rfl)]; refine wp_store_row 27 _ _ (by rfl) _ cs'.toArray (by rfl) (by rfl) 27 _ (hM.blk _ rfl).2 hM.ten' hM.ten2 hM.one ?_)
          refine hK.out _ _ ?_ (fun hHeld => ?_)
          · exact below_setRow hM.bel (hM.blk _ rfl).1 _
          clear hK K
          (try simp only [Act.put, List.setIfInBounds_toArray, List.set_cons_zero, List.set_cons_succ])
          refine takeL 12 (v := ?_) rfl (by kernel_rfl) (by kernel_rfl) (by kernel_rfl) (fun _ _ _ h => h) (Or.inl ⟨by rfl, ?_⟩) (by assumption) ?_
          rotate_left
          · (intro w hSw; go_simp; try with_reducible rfl)
          (try simp only [Act.put, List.setIfInBounds_toArray, List.set_cons_zero, List.set_cons_succ])
          refine takeL 13 (v := ?_) rfl (by kernel_rfl) (by kernel_rfl) (by kernel_rfl) (fun _ _ _ h => h) (Or.inl ⟨by rfl, ?_⟩) (by assumption) ?_
          rotate_left
          · (intro w hSw; go_simp; try with_reducible rfl)
          (try simp only [Act.put, List.setIfInBounds_toArray, List.set_cons_zero, List.set_cons_succ])
          refine takeL 14 (v := ?_) rfl (by kernel_rfl) (by kernel_rfl) (by kernel_rfl) (fun _ _ _ h => h) (Or.inl ⟨by rfl, ?_⟩) (by assumption) ?_
          rotate_left
          · (intro w hSw; go_simp; try with_reducible rfl)
          (try simp only [Act.put, List.setIfInBounds_toArray, List.set_cons_zero, List.set_cons_succ])
          refine takeL 15 (v := ?_) rfl (by kernel_rfl) (by kernel_rfl) (by kernel_rfl) (fun _ _ _ h => h) (Or.inl ⟨by rfl, ?_⟩) (by assumption) ?_
          rotate_left
          · (intro w hSw; go_simp; try with_reducible rfl)
          (try simp only [Act.put, List.setIfInBounds_toArray, List.set_cons_zero, List.set_cons_succ])
          refine wpAnyH_done (by kernel_rfl) ?_ _
          refine NoPanic.normal ?_
          refine ⟨rfl, ?_⟩
          iterate 15 apply Exists.intro
          refine ⟨?_, hM.done (a := ac) (c := cc)⟩
          try simp only [Act.put, List.setIfInBounds_toArray, List.set_cons_zero, List.set_cons_succ]
          rfl
        refine consL 10 rfl ?_ (fun K hK => ?_)
        rotate_left
        · skip
          go_simp
          refine hK.out _ _ ?_ (fun hHeld => ?_)
          · exact hM.bel.alloc hM.bel.size _
          clear hK K
          (try simp only [Act.put, List.setIfInBounds_toArray, List.set_cons_zero, List.set_cons_succ])
          (refine anyH_world (fun w1 e1 => ?_); replace hM := hM.var e1; clear e1)
          refine stepL 3 rfl (by kernel_rfl) (fun K hK => ?_)
          (go_simp; go_at_call 10; refine (hM.append hYb free hne).mono ?_; rintro e w1 ⟨cs', dl, zr, ar, nd, er, ac, cc, rfl, hM1⟩; replace hM := hM1)
          refine hK.out _ _ ?_ (fun hHeld => ?_)
          · exact hM.bel
          clear hK K
          (try simp only [Act.put, List.setIfInBounds_toArray, List.set_cons_zero, List.set_cons_succ])
          refine takeL 4 (v := ?_) rfl (by kernel_rfl) (by kernel_rfl) (by kernel_rfl) (fun _ _ _ h => h) (Or.inl ⟨by rfl, ?_⟩) (by assumption) ?_
          rotate_left
          · (intro w hSw; go_simp; try with_reducible rfl)
          (try simp only [Act.put, List.setIfInBounds_toArray, List.set_cons_zero, List.set_cons_succ])
          refine takeL 5 (v := ?_) rfl (by kernel_rfl) (by kernel_rfl) (by kernel_rfl) (fun _ _ _ h => h) (Or.inl ⟨by rfl, ?_⟩) (by assumption) ?_
          rotate_left
          · (intro w hSw; go_simp; try with_reducible rfl)
          (try simp only [Act.put, List.setIfInBounds_toArray, List.set_cons_zero, List.set_cons_succ])
          refine takeL 6 (v := ?_) rfl (by kernel_rfl) (by kernel_rfl) (by kernel_rfl) (fun _ _ _ h => h) (Or.inl ⟨by rfl, ?_⟩) (by assumption) ?_
          rotate_left
          · (intro w hSw; go_simp; try with_reducible rfl)
          (try simp only [Act.put, List.setIfInBounds_toArray, List.set_cons_zero, List.set_cons_succ])
          refine takeL 7 (v := ?_) rfl (by kernel_rfl) (by kernel_rfl) (by kernel_rfl) (fun _ _ _ h => h) (Or.inl ⟨by rfl, ?_⟩) (by assumption) ?_
          rotate_left
          · (intro w hSw; go_simp; try with_reducible rfl)
          (try simp only [Act.put, List.setIfInBounds_toArray, List.set_cons_zero, List.set_cons_succ])
          refine takeL 8 (v := ?_) rfl (by kernel_rfl) (by kernel_rfl) (by kernel_rfl) (fun _ _ _ h => h) (Or.inl ⟨by rfl, ?_⟩) (by assumption) ?_
          rotate_left
          · (intro w hSw; go_simp; try with_reducible rfl)
          (try simp only [Act.put, List.setIfInBounds_toArray, List.set_cons_zero, List.set_cons_succ])
          refine takeL 9 (v := ?_) rfl (by kernel_rfl) (by kernel_rfl) (by kernel_rfl) (fun _ _ _ h => h) (Or.inl ⟨by rfl, ?_⟩) (by assumption) ?_
          rotate_left
          · (intro w hSw; go_simp; try with_reducible rfl)
          (try simp only [Act.put, List.setIfInBounds_toArray, List.set_cons_zero, List.set_cons_succ])
          refine stepL 11 rfl (by kernel_rfl) (fun K hK => ?_)
          (rw [if_pos (by rfl)]; refine wp_store_row 27 _ _ (by rfl) _ cs'.toArray (by rfl) (by rfl) 27 _ (hM.blk _ rfl).2 hM.ten' hM.ten2 hM.one ?_)
          refine hK.out _ _ ?_ (fun hHeld => ?_)
          · exact below_setRow hM.bel (hM.blk _ rfl).1 _
          clear hK K
          (try simp only [Act.put, List.setIfInBounds_toArray, List.set_cons_zero, List.set_cons_succ])
          refine takeL 12 (v := ?_) rfl (by kernel_rfl) (by kernel_rfl) (by kernel_rfl) (fun _ _ _ h => h) (Or.inl ⟨by rfl, ?_⟩) (by assumption) ?_
          rotate_left
          · (intro w hSw; go_simp; try with_reducible rfl)
          (try simp only [Act.put, List.setIfInBounds_toArray, List.set_cons_zero, List.set_cons_succ])
          refine takeL 13 (v := ?_) rfl (by kernel_rfl) (by kernel_rfl) (by kernel_rfl) (fun _ _ _ h => h) (Or.inl ⟨by rfl, ?_⟩) (by assumption) ?_
          rotate_left
          · (intro w hSw; go_simp; try with_reducible rfl)
          (try simp only [Act.put, List.setIfInBounds_toArray, List.set_cons_zero, List.set_cons_succ])
          refine takeL 14 (v := ?_) rfl (by kernel_rfl) (by kernel_rfl) (by kernel_rfl) (fun _ _ _ h => h) (Or.inl ⟨by rfl, ?_⟩) (by assumption) ?_
          rotate_left
          · (intro w hSw; go_simp; try with_reducible rfl)
          (try simp only [Act.put, List.setIfInBounds_toArray, List.set_cons_zero, List.set_cons_succ])
          refine takeL 15 (v := ?_) rfl (by kernel_rfl) (by kernel_rfl) (by kernel_rfl) (fun _ _ _ h => h) (Or.inl ⟨by rfl, ?_⟩) (by assumption) ?_
          rotate_left
          · (intro w hSw; go_simp; try with_reducible rfl)
          (try simp only [Act.put, List.setIfInBounds_toArray, List.set_cons_zero, List.set_cons_succ])
          refine wpAnyH_done (by kernel_rfl) ?_ _
          refine NoPanic.normal ?_
          refine ⟨rfl, ?_⟩
          iterate 15 apply Exists.intro
          refine ⟨?_, hM.done (a := ac) (c := cc)⟩
          try simp only [Act.put, List.setIfInBounds_toArray, List.set_cons_zero, List.set_cons_succ]
          rfl
        exact AllReadyH.nil
      refine consL 10 rfl ?_ (fun K hK => ?_)
      rotate_left
      · skip
        go_simp
        refine hK.out _ _ ?_ (fun hHeld => ?_)
        · exact hM.bel.alloc hM.bel.size _
        clear hK K
        (try simp only [Act.put, List.setIfInBounds_toArray, List.set_cons_zero, List.set_cons_succ])
        (refine anyH_world (fun w1 e1 => ?_); replace hM := hM.var e1; clear e1)
        refine stepL 2 rfl (by kernel_rfl) (fun K hK => ?_)
        go_simp
        refine hK.out _ _ ?_ (fun hHeld => ?_)
        · exact hM.bel.alloc hM.bel.size _
        clear hK K
        (try simp only [Act.put, List.setIfInBounds_toArray, List.set_cons_zero, List.set_cons_succ])
        (refine anyH_world (fun w1 e1 => ?_); replace hM := hM.make (by omega) e1; clear e1)
        refine stepL 3 rfl (by kernel_rfl) (fun K hK => ?_)
        (go_simp; go_at_call 10; refine (hM.append hYb free hne).mono ?_; rintro e w1 ⟨cs', dl, zr, ar, nd, er, ac, cc, rfl, hM1⟩; replace hM := hM1)
        refine hK.out _ _ ?_ (fun hHeld => ?_)
        · exact hM.bel
        clear hK K
        (try simp only [Act.put, List.setIfInBounds_toArray, List.set_cons_zero, List.set_cons_succ])
        refine takeL 4 (v := ?_) rfl (by kernel_rfl) (by kernel_rfl) (by kernel_rfl) (fun _ _ _ h => h) (Or.inl ⟨by rfl, ?_⟩) (by assumption) ?_
        rotate_left
        · (intro w hSw; go_simp; try with_reducible rfl)
        (try simp only [Act.put, List.setIfInBounds_toArray, List.set_cons_zero, List.set_cons_succ])
        refine takeL 5 (v := ?_) rfl (by kernel_rfl) (by kernel_rfl) (by kernel_rfl) (fun _ _ _ h => h) (Or.inl ⟨by rfl, ?_⟩) (by assumption) ?_
        rotate_left
        · (intro w hSw; go_simp; try with_reducible rfl)
        (try simp only [Act.put, List.setIfInBounds_toArray, List.set_cons_zero, List.set_cons_succ])
        refine takeL 6 (v := ?_) rfl (by kernel_rfl) (by kernel_rfl) (by kernel_rfl) (fun _ _ _ h => h) (Or.inl ⟨by rfl, ?_⟩) (by assumption) ?_
        rotate_left
        · (intro w hSw; go_simp; try with_reducible rfl)
        (try simp only [Act.put, List.setIfInBounds_toArray, List.set_cons_zero, List.set_cons_succ])
        refine takeL 7 (v := ?_) rfl (by kernel_rfl) (by kernel_rfl) (by kernel_rfl) (fun _ _ _ h => h) (Or.inl ⟨by rfl, ?_⟩) (by assumption) ?_
        rotate_left
        · (intro w hSw; go_simp; try with_reducible rfl)
        (try simp only [Act.put, List.setIfInBounds_toArray, List.set_cons_zero, List.set_cons_succ])
        refine takeL 8 (v := ?_) rfl (by kernel_rfl) (by kernel_rfl) (by kernel_rfl) (fun _ _ _ h => h) (Or.inl ⟨by rfl, ?_⟩) (by assumption) ?_
        rotate_left
        · (intro w hSw; go_simp; try with_reducible rfl)
        (try simp only [Act.put, List.setIfInBounds_toArray, List.set_cons_zero, List.set_cons_succ])
        refine takeL 9 (v := ?_) rfl (by kernel_rfl) (by kernel_rfl) (by kernel_rfl) (fun _ _ _ h => h) (Or.inl ⟨by rfl, ?_⟩) (by assumption) ?_
        rotate_left
        · (intro w hSw; go_simp; try with_reducible rfl)
        (try simp only [Act.put, List.setIfInBounds_toArray, List.set_cons_zero, List.set_cons_succ])
        refine stepL 11 rfl (by kernel_rfl) (fun K hK => ?_)
        (rw [if_pos (by rfl)]; refine wp_store_row 27 _ _ (by rfl) _ cs'.toArray (by rfl) (by rfl) 27 _ (hM.blk _ rfl).2 hM.ten' hM.ten2 hM.one ?_)
        refine hK.out _ _ ?_ (fun hHeld => ?_)
        · exact below_setRow hM.bel (hM.blk _ rfl).1 _
        clear hK K
        (try simp only [Act.put, List.setIfInBounds_toArray, List.set_cons_zero, List.set_cons_succ])
        refine takeL 12 (v := ?_) rfl (by kernel_rfl) (by kernel_rfl) (by kernel_rfl) (fun _ _ _ h => h) (Or.inl ⟨by rfl, ?_⟩) (by assumption) ?_
        rotate_left
        · (intro w hSw; go_simp; try with_reducible rfl)
        (try simp only [Act.put, List.setIfInBounds_toArray, List.set_cons_zero, List.set_cons_succ])
        refine takeL 13 (v := ?_) rfl (by kernel_rfl) (by kernel_rfl) (by kernel_rfl) (fun _ _ _ h => h) (Or.inl ⟨by rfl, ?_⟩) (by assumption) ?_
        rotate_left
        · (intro w hSw; go_simp; try with_reducible rfl)
        (try simp only [Act.put, List.setIfInBounds_toArray, List.set_cons_zero, List.set_cons_succ])
        refine takeL 14 (v := ?_) rfl (by kernel_rfl) (by kernel_rfl) (by kernel_rfl) (fun _ _ _ h => h) (Or.inl ⟨by rfl, ?_⟩) (by assumption) ?_
        rotate_left
        · (intro w hSw; go_simp; try with_reducible rfl)
        (try simp only [Act.put, List.setIfInBounds_toArray, List.set_cons_zero, List.set_cons_succ])
        refine takeL 15 (v := ?_) rfl (by kernel_rfl) (by kernel_rfl) (by kernel_rfl) (fun _ _ _ h => h) (Or.inl ⟨by rfl, ?_⟩) (by assumption) ?_
        rotate_left
        · (intro w hSw; go_simp; try with_reducible rfl)
        (try simp only [Act.put, List.setIfInBounds_toArray, List.set_cons_zero, List.set_cons_succ])
        refine wpAnyH_done (by kernel_rfl) ?_ _
        refine NoPanic.normal ?_
        refine ⟨rfl, ?_⟩
        iterate 15 apply Exists.intro
        refine ⟨?_, hM.done (a := ac) (c := cc)⟩
        try simp only [Act.put, List.setIfInBounds_toArray, List.set_cons_zero, List.set_cons_succ]
        rfl
      exact AllReadyH.nil
    · clear hM rdev hYb
      rintro u40 u41 u42 u43 u44 u45 u46 u47 u48 u49 v11 v12 v13 v14 v15 w7 ⟨q, cs', dl, zr, ar, nd, er, ac, cc, rfl, rfl, rfl, rfl, rfl, hq, hgq, hd', hA, hE, hb'⟩
      have hst := fill_step Z k i c d HF.out hk1 hk2 b HBB.out hA
      have hgD7 := blk_on HGD.out hb'
      have r11 := range_of_block (cs := cs') hgq
      have hl11 : (Try.prog.info? 27).map (·.size) = some cs'.length := by rw [hi10, ← hd'.is.ten]; rfl
      simp only [Act.put, List.setIfInBounds_toArray, List.set_cons_zero, List.set_cons_succ]
      by_cases hiZ : i < Z
      · obtain ⟨her, i', c', hic, hF'⟩ := hst.1 hiZ
        subst her
        have hten := hd'.is.ten
        have hten0 := hdv.is.ten
        have hone := hd'.is.one
        have HFF := Lib.hid hF'
        have HIC := Lib.hid hic
        have HD7 := Lib.hid hd'
        have HB7 := Lib.hid (HBR.out.trans (hb'.mono HBR.out.size))
        clear hst hF' hic hd' hb' hA hE hgq
        go_wp2_with (first
          | refine wpList_load_at (by rfl) 27 (.tmp 11) rfl q 0 (by rfl) cs' _ r11 Try.underlying27 rfl hl11 ?_
          | (refine wpList_lay (by rfl) 27 (.tmp 8) (.tmp 61) (by rfl) D cs'.toArray (by rfl) (by rfl) _ _ hgD7 10 hi10 hten hten0 hone ?_
             intro w8 hL8
             have HL8 := Lib.hid hL8
             clear hL8)
          | fail)
        go_roundw
        case rel =>
          refine ⟨i', c', dl, cs', congrArg (Value.int .i64) ?_, HFF.out, HL8.out.blk, HD7.out.away (Away.laid HL8.out (by simp)), HB7.out.trans (HL8.out.bel.mono HDw.out)⟩
          rw [HIC.out, HMM.out]
          simp
        case measure =>
          show 3000 - ((M : Int) + 1).toNat < 3000 - (M : Int).toNat
          omega
      · have hiz : i = Z := by have := HF.out.iz; omega
        subst hiz
        obtain ⟨her, hdd⟩ := hst.2 rfl
        subst her
        subst hdd
        have hcc := hE (.inr rfl)
        subst hcc
        have hc0 := HF.out.ic rfl
        subst hc0
        have r8 := range_of_block (cs := cs') hgD7
        have HG7 := Lib.hid hgD7
        have HB7 := Lib.hid (HBR.out.trans (hb'.mono HBR.out.size))
        have HD7 := Lib.hid (hdv.below hb')
        clear hst hA hE hgq hd' hb' hgD7 hdv
        go_wp2_with (first
          | refine wpList_load_at (by rfl) 27 (.tmp 11) rfl q 0 (by rfl) cs' _ r11 Try.underlying27 rfl hl11 ?_
          | refine wpList_load_at (by rfl) 27 (.tmp 8) rfl D 0 (by rfl) cs' _ r8 Try.underlying27 rfl hl11 ?_
          | fail)
        refine (dsame_refl dl cs' w7 HD7.out.is).mono ?_
        rintro e w8 ⟨rfl, hb8⟩
        have HG8 := Lib.hid (blk_on HG7.out hb8)
        have HB8 := Lib.hid (HB7.out.trans (hb8.mono HB7.out.size))
        have HD8 := Lib.hid (HD7.out.below hb8)
        have r9 := range_of_block (cs := cs') HG8.out
        have hDl8 : D < w8.heap.size := block_lt HG8.out
        clear hb8 r8 r11 HD7 HB7 HG7 hDl
        have hZm : IntKind.i64.wrap ((i : Int) - 1) = ((i - 1 : Nat) : Int) := by rw [IntWalk.i64_in _ (by omega)]; omega
        obtain ⟨⟨zl, hzl, hzs⟩, fr2, hap⟩ := fill_reset i k hZ1 dl HF.out hk1 hk2 b HBB.out
        go_wp2_with (first
          | refine wpList_load_at (by rfl) 27 (.tmp 8) rfl D 0 (by rfl) cs' _ r9 Try.underlying27 rfl hl11 ?_
          | fail)
        refine (do_reset [] dl cs' w8 (HD8.out.less (by simp)) (by simp) HF.out.free (i - 1) zl hzl hzs none 0 0).mono ?_
        rintro e w9 ⟨⟨cs2, rfl, hd2⟩, hb9⟩
        have HG9 := Lib.hid (blk_on HG8.out hb9)
        have HB9 := Lib.hid (HB8.out.trans (hb9.mono HB8.out.size))
        have HD9 := Lib.hid (HD8.out.below hb9)
        have hten2 := hd2.is.ten
        have hone2 := hd2.is.one
        have HE2 := Lib.hid hd2
        have HFR := Lib.hid fr2
        have HAP := Lib.hid hap
        clear hb9 r9 HG8 HB8 HD8 hzl hzs hd2 fr2 hap hDl8
        generalize setZ (tick dl) (i - 1) ⟨0, [], 0⟩ = dr at *
        go_wp2_with (first
          | (refine wpList_lay (by rfl) 27 (.tmp 17) (.tmp 70) (by rfl) w9.heap.size cs2.toArray (by rfl) (by rfl) _ _ (heap_alloc_new w9 _) 10 hi10 hten2 (by rfl) hone2 ?_
             intro w10 hL10
             have HL10 := Lib.hid hL10
             clear hL10)
          | fail)
        have hb910 : Below w9.heap.size w9 w10 := ((Below.refl _ w9).alloc (Nat.le_refl _) _).trans HL10.out.bel
        have HG10 := Lib.hid (blk_on HG9.out hb910)
        have HB10 := Lib.hid (HB9.out.trans (hb910.mono HB9.out.size))
        have HD10 := Lib.hid (HD9.out.below hb910)
        have hdv2 := HE2.out.below hb910
        have hlcs2 : (Try.prog.info? 27).map (·.size) = some cs2.length := by rw [hi10, ← hten2]; rfl
        have rdev2 := range_of_block (cs := cs2) HL10.out.blk
        have hDl2 := block_lt HL10.out.blk
        have hYb2 : ∀ y ∈ ([] : List Nat), y < w10.heap.size := by intro y hy; simp at hy
        have hM2 : Mq [] dr cs2 b w10 none none w10.drew := Mq.start hdv2
        have free2 := HFR.out
        clear hb910 HG9 HB9 HD9 HL10 HE2 hdv2 free hone2 hten2
        refine cut15 (AppR [] dr cs2 b w10) ?_ ?_
        · refine wp_region_noPanic ?_
          refine wp_region_held_drew (S := (fun wz => Below w10.heap.size w10 wz)) (by kernel_rfl) ?_ (fun hHeld => ?_)
          · exact below_self_drew _
          refine takeL 0 (v := _) rfl (by kernel_rfl) (by kernel_rfl) (by kernel_rfl) (fun _ _ _ h => h) (yieldsIf_load_mid (by rfl) _ _ rfl _ _ rfl cs2 _ (fun w hSw => range_below rdev2 hSw hDl2) Try.underlying27 rfl hlcs2) (by assumption) ?_
          (try simp only [Act.put, List.setIfInBounds_toArray, List.set_cons_zero, List.set_cons_succ])
          refine takeL 1 (v := ?_) rfl (by kernel_rfl) (by kernel_rfl) (by kernel_rfl) (fun _ _ _ h => h) (Or.inl ⟨by rfl, ?_⟩) (by assumption) ?_
          rotate_left
          · (intro w hSw; go_simp; try with_reducible rfl)
          (try simp only [Act.put, List.setIfInBounds_toArray, List.set_cons_zero, List.set_cons_succ])
          refine wpAnyH_ready (rs := [2, 10]) (by kernel_rfl) (by simp) ?_
          refine consL 2 rfl ?_ (fun K hK => ?_)
          rotate_left
          · skip
            go_simp
            refine hK.out _ _ ?_ (fun hHeld => ?_)
            · exact hM2.bel.alloc hM2.bel.size _
            clear hK K
            (try simp only [Act.put, List.setIfInBounds_toArray, List.set_cons_zero, List.set_cons_succ])
            (refine anyH_world (fun w1 e1 => ?_); replace hM2 := hM2.make (by omega) e1; clear e1)
            refine wpAnyH_ready (rs := [3, 10]) (by kernel_rfl) (by simp) ?_
            refine consL 3 rfl ?_ (fun K hK => ?_)
            rotate_left
            · skip
              (go_simp; go_at_call 10; refine (hM2.append hYb2 free2 hne).mono ?_; rintro e w1 ⟨cs', dl, zr, ar, nd, er, ac, cc, rfl, hM1⟩; replace hM2 := hM1)
              refine hK.out _ _ ?_ (fun hHeld => ?_)
              · exact hM2.bel
              clear hK K
              (try simp only [Act.put, List.setIfInBounds_toArray, List.set_cons_zero, List.set_cons_succ])
              refine takeL 4 (v := ?_) rfl (by kernel_rfl) (by kernel_rfl) (by kernel_rfl) (fun _ _ _ h => h) (Or.inl ⟨by rfl, ?_⟩) (by assumption) ?_
              rotate_left
              · (intro w hSw; go_simp; try with_reducible rfl)
              (try simp only [Act.put, List.setIfInBounds_toArray, List.set_cons_zero, List.set_cons_succ])
              refine takeL 5 (v := ?_) rfl (by kernel_rfl) (by kernel_rfl) (by kernel_rfl) (fun _ _ _ h => h) (Or.inl ⟨by rfl, ?_⟩) (by assumption) ?_
              rotate_left
              · (intro w hSw; go_simp; try with_reducible rfl)
              (try simp only [Act.put, List.setIfInBounds_toArray, List.set_cons_zero, List.set_cons_succ])
              refine takeL 6 (v := ?_) rfl (by kernel_rfl) (by kernel_rfl) (by kernel_rfl) (fun _ _ _ h => h) (Or.inl ⟨by rfl, ?_⟩) (by assumption) ?_
              rotate_left
              · (intro w hSw; go_simp; try with_reducible rfl)
              (try simp only [Act.put, List.setIfInBounds_toArray, List.set_cons_zero, List.set_cons_succ])
              refine takeL 7 (v := ?_) rfl (by kernel_rfl) (by kernel_rfl) (by kernel_rfl) (fun _ _ _ h => h) (Or.inl ⟨by rfl, ?_⟩) (by assumption) ?_
              rotate_left
              · (intro w hSw; go_simp; try with_reducible rfl)
              (try simp only [Act.put, List.setIfInBounds_toArray, List.set_cons_zero, List.set_cons_succ])
              refine takeL 8 (v := ?_) rfl (by kernel_rfl) (by kernel_rfl) (by kernel_rfl) (fun _ _ _ h => h) (Or.inl ⟨by rfl, ?_⟩) (by assumption) ?_
              rotate_left
              · (intro w hSw; go_simp; try with_reducible rfl)
              (try simp only [Act.put, List.setIfInBounds_toArray, List.set_cons_zero, List.set_cons_succ])
              refine takeL 9 (v := ?_) rfl (by kernel_rfl) (by kernel_rfl) (by kernel_rfl) (fun _ _ _ h => h) (Or.inl ⟨by rfl, ?_⟩) (by assumption) ?_
              rotate_left
              · (intro w hSw; go_simp; try with_reducible rfl)
              (try simp only [Act.put, List.setIfInBounds_toArray, List.set_cons_zero, List.set_cons_succ])
              refine stepL 10 rfl (by kernel_rfl) (fun K hK => ?_)
              go_simp
              refine hK.out _ _ ?_ (fun hHeld => ?_)
              · exact hM2.bel.alloc hM2.bel.size _
              clear hK K
              (try simp only [Act.put, List.setIfInBounds_toArray, List.set_cons_zero, List.set_cons_succ])
              (refine anyH_world (fun w1 e1 => ?_); replace hM2 := hM2.var e1; clear e1)
              refine stepL 11 rfl (by kernel_rfl) (fun K hK => ?_)
              (rw [if_pos (by rfl)]; refine wp_store_row 27 _ _ (by rfl) _ cs'.toArray (by rfl) (by rfl) 27 _ (hM2.blk _ rfl).2 hM2.ten' hM2.ten2 hM2.one ?_)
              refine hK.out _ _ ?_ (fun hHeld => ?_)
              · exact below_setRow hM2.bel (hM2.blk _ rfl).1 _
              clear hK K
              (try simp only [Act.put, List.setIfInBounds_toArray, List.set_cons_zero, List.set_cons_succ])
              refine takeL 12 (v := ?_) rfl (by kernel_rfl) (by kernel_rfl) (by kernel_rfl) (fun _ _ _ h => h) (Or.inl ⟨by rfl, ?_⟩) (by assumption) ?_
              rotate_left
              · (intro w hSw; go_simp; try with_reducible rfl)
              (try simp only [Act.put, List.setIfInBounds_toArray, List.set_cons_zero, List.set_cons_succ])
              refine takeL 13 (v := ?_) rfl (by kernel_rfl) (by kernel_rfl) (by kernel_rfl) (fun _ _ _ h => h) (Or.inl ⟨by rfl, ?_⟩) (by assumption) ?_
              rotate_left
              · (intro w hSw; go_simp; try with_reducible rfl)
              (try simp only [Act.put, List.setIfInBounds_toArray, List.set_cons_zero, List.set_cons_succ])
              refine takeL 14 (v := ?_) rfl (by kernel_rfl) (by kernel_rfl) (by kernel_rfl) (fun _ _ _ h => h) (Or.inl ⟨by rfl, ?_⟩) (by assumption) ?_
              rotate_left
              · (intro w hSw; go_simp; try with_reducible rfl)
              (try simp only [Act.put, List.setIfInBounds_toArray, List.set_cons_zero, List.set_cons_succ])
              refine takeL 15 (v := ?_) rfl (by kernel_rfl) (by kernel_rfl) (by kernel_rfl) (fun _ _ _ h => h) (Or.inl ⟨by rfl, ?_⟩) (by assumption) ?_
              rotate_left
              · (intro w hSw; go_simp; try with_reducible rfl)
              (try simp only [Act.put, List.setIfInBounds_toArray, List.set_cons_zero, List.set_cons_succ])
              refine wpAnyH_done (by kernel_rfl) ?_ _
              refine NoPanic.normal ?_
              refine ⟨rfl, ?_⟩
              iterate 15 apply Exists.intro
              refine ⟨?_, hM2.done (a := ac) (c := cc)⟩
              try simp only [Act.put, List.setIfInBounds_toArray, List.set_cons_zero, List.set_cons_succ]
              rfl
            refine consL 10 rfl ?_ (fun K hK => ?_)
            rotate_left
            · skip
              go_simp
              refine hK.out _ _ ?_ (fun hHeld => ?_)
              · exact hM2.bel.alloc hM2.bel.size _
              clear hK K
              (try simp only [Act.put, List.setIfInBounds_toArray, List.set_cons_zero, List.set_cons_succ])
              (refine anyH_world (fun w1 e1 => ?_); replace hM2 := hM2.var e1; clear e1)
              refine stepL 3 rfl (by kernel_rfl) (fun K hK => ?_)
              (go_simp; go_at_call 10; refine (hM2.append hYb2 free2 hne).mono ?_; rintro e w1 ⟨cs', dl, zr, ar, nd, er, ac, cc, rfl, hM1⟩; replace hM2 := hM1)
              refine hK.out _ _ ?_ (fun hHeld => ?_)
              · exact hM2.bel
              clear hK K
              (try simp only [Act.put, List.setIfInBounds_toArray, List.set_cons_zero, List.set_cons_succ])
              refine takeL 4 (v := ?_) rfl (by kernel_rfl) (by kernel_rfl) (by kernel_rfl) (fun _ _ _ h => h) (Or.inl ⟨by rfl, ?_⟩) (by assumption) ?_
              rotate_left
              · (intro w hSw; go_simp; try with_reducible rfl)
              (try simp only [Act.put, List.setIfInBounds_toArray, List.set_cons_zero, List.set_cons_succ])
              refine takeL 5 (v := ?_) rfl (by kernel_rfl) (by kernel_rfl) (by kernel_rfl) (fun _ _ _ h => h) (Or.inl ⟨by rfl, ?_⟩) (by assumption) ?_
              rotate_left
              · (intro w hSw; go_simp; try with_reducible rfl)
              (try simp only [Act.put, List.setIfInBounds_toArray, List.set_cons_zero, List.set_cons_succ])
              refine takeL 6 (v := ?_) rfl (by kernel_rfl) (by kernel_rfl) (by kernel_rfl) (fun _ _ _ h => h) (Or.inl ⟨by rfl, ?_⟩) (by assumption) ?_
              rotate_left
              · (intro w hSw; go_simp; try with_reducible rfl)
              (try simp only [Act.put, List.setIfInBounds_toArray, List.set_cons_zero, List.set_cons_succ])
              refine takeL 7 (v := ?_) rfl (by kernel_rfl) (by kernel_rfl) (by kernel_rfl) (fun _ _ _ h => h) (Or.inl ⟨by rfl, ?_⟩) (by assumption) ?_
              rotate_left
              · (intro w hSw; go_simp; try with_reducible rfl)
              (try simp only [Act.put, List.setIfInBounds_toArray, List.set_cons_zero, List.set_cons_succ])
              refine takeL 8 (v := ?_) rfl (by kernel_rfl) (by kernel_rfl) (by kernel_rfl) (fun _ _ _ h => h) (Or.inl ⟨by rfl, ?_⟩) (by assumption) ?_
              rotate_left
              · (intro w hSw; go_simp; try with_reducible rfl)
              (try simp only [Act.put, List.setIfInBounds_toArray, List.set_cons_zero, List.set_cons_succ])
              refine takeL 9 (v := ?_) rfl (by kernel_rfl) (by kernel_rfl) (by kernel_rfl) (fun _ _ _ h => h) (Or.inl ⟨by rfl, ?_⟩) (by assumption) ?_
              rotate_left
              · (intro w hSw; go_simp; try with_reducible rfl)
              (try simp only [Act.put, List.setIfInBounds_toArray, List.set_cons_zero, List.set_cons_succ])
              refine stepL 11 rfl (by kernel_rfl) (fun K hK => ?_)
              (rw [if_pos (by rfl)]; refine wp_store_row 27 _ _ (by rfl) _ cs'.toArray (by rfl) (by rfl) 27 _ (hM2.blk _ rfl).2 hM2.ten' hM2.ten2 hM2.one ?_)
              refine hK.out _ _ ?_ (fun hHeld => ?_)
              · exact below_setRow hM2.bel (hM2.blk _ rfl).1 _
              clear hK K
              (try simp only [Act.put, List.setIfInBounds_toArray, List.set_cons_zero, List.set_cons_succ])
              refine takeL 12 (v := ?_) rfl (by kernel_rfl) (by kernel_rfl) (by kernel_rfl) (fun _ _ _ h => h) (Or.inl ⟨by rfl, ?_⟩) (by assumption) ?_
              rotate_left
              · (intro w hSw; go_simp; try with_reducible rfl)
              (try simp only [Act.put, List.setIfInBounds_toArray, List.set_cons_zero, List.set_cons_succ])
              refine takeL 13 (v := ?_) rfl (by kernel_rfl) (by kernel_rfl) (by kernel_rfl) (fun _ _ _ h => h) (Or.inl ⟨by rfl, ?_⟩) (by assumption) ?_
              rotate_left
              · (intro w hSw; go_simp; try with_reducible rfl)
              (try simp only [Act.put, List.setIfInBounds_toArray, List.set_cons_zero, List.set_cons_succ])
              refine takeL 14 (v := ?_) rfl (by kernel_rfl) (by kernel_rfl) (by kernel_rfl) (fun _ _ _ h => h) (Or.inl ⟨by rfl, ?_⟩) (by assumption) ?_
              rotate_left
              · (intro w hSw; go_simp; try with_reducible rfl)
              (try simp only [Act.put, List.setIfInBounds_toArray, List.set_cons_zero, List.set_cons_succ])
              refine takeL 15 (v := ?_) rfl (by kernel_rfl) (by kernel_rfl) (by kernel_rfl) (fun _ _ _ h => h) (Or.inl ⟨by rfl, ?_⟩) (by assumption) ?_
              rotate_left
              · (intro w hSw; go_simp; try with_reducible rfl)
              (try simp only [Act.put, List.setIfInBounds_toArray, List.set_cons_zero, List.set_cons_succ])
              refine wpAnyH_done (by kernel_rfl) ?_ _
              refine NoPanic.normal ?_
              refine ⟨rfl, ?_⟩
              iterate 15 apply Exists.intro
              refine ⟨?_, hM2.done (a := ac) (c := cc)⟩
              try simp only [Act.put, List.setIfInBounds_toArray, List.set_cons_zero, List.set_cons_succ]
              rfl
            exact AllReadyH.nil
          refine consL 10 rfl ?_ (fun K hK => ?_)
          rotate_left
          · skip
            go_simp
            refine hK.out _ _ ?_ (fun hHeld => ?_)
            · exact hM2.bel.alloc hM2.bel.size _
            clear hK K
            (try simp only [Act.put, List.setIfInBounds_toArray, List.set_cons_zero, List.set_cons_succ])
            (refine anyH_world (fun w1 e1 => ?_); replace hM2 := hM2.var e1; clear e1)
            refine stepL 2 rfl (by kernel_rfl) (fun K hK => ?_)
            go_simp
            refine hK.out _ _ ?_ (fun hHeld => ?_)
            · exact hM2.bel.alloc hM2.bel.size _
            clear hK K
            (try simp only [Act.put, List.setIfInBounds_toArray, List.set_cons_zero, List.set_cons_succ])
            (refine anyH_world (fun w1 e1 => ?_); replace hM2 := hM2.make (by omega) e1; clear e1)
            refine stepL 3 rfl (by kernel_rfl) (fun K hK => ?_)
            (go_simp; go_at_call 10; refine (hM2.append hYb2 free2 hne).mono ?_; rintro e w1 ⟨cs', dl, zr, ar, nd, er, ac, cc, rfl, hM1⟩; replace hM2 := hM1)
            refine hK.out _ _ ?_ (fun hHeld => ?_)
            · exact hM2.bel
            clear hK K
            (try simp only [Act.put, List.setIfInBounds_toArray, List.set_cons_zero, List.set_cons_succ])
            refine takeL 4 (v := ?_) rfl (by kernel_rfl) (by kernel_rfl) (by kernel_rfl) (fun _ _ _ h => h) (Or.inl ⟨by rfl, ?_⟩) (by assumption) ?_
            rotate_left
            · (intro w hSw; go_simp; try with_reducible rfl)
            (try simp only [Act.put, List.setIfInBounds_toArray, List.set_cons_zero, List.set_cons_succ])
            refine takeL 5 (v := ?_) rfl (by kernel_rfl) (by kernel_rfl) (by kernel_rfl) (fun _ _ _ h => h) (Or.inl ⟨by rfl, ?_⟩) (by assumption) ?_
            rotate_left
            · (intro w hSw; go_simp; try with_reducible rfl)
            (try simp only [Act.put, List.setIfInBounds_toArray, List.set_cons_zero, List.set_cons_succ])
            refine takeL 6 (v := ?_) rfl (by kernel_rfl) (by kernel_rfl) (by kernel_rfl) (fun _ _ _ h => h) (Or.inl ⟨by rfl, ?_⟩) (by assumption) ?_
            rotate_left
            · (intro w hSw; go_simp; try with_reducible rfl)
            (try simp only [Act.put, List.setIfInBounds_toArray, List.set_cons_zero, List.set_cons_succ])
            refine takeL 7 (v := ?_) rfl (by kernel_rfl) (by kernel_rfl) (by kernel_rfl) (fun _ _ _ h => h) (Or.inl ⟨by rfl, ?_⟩) (by assumption) ?_
            rotate_left
            · (intro w hSw; go_simp; try with_reducible rfl)
            (try simp only [Act.put, List.setIfInBounds_toArray, List.set_cons_zero, List.set_cons_succ])
            refine takeL 8 (v := ?_) rfl (by kernel_rfl) (by kernel_rfl) (by kernel_rfl) (fun _ _ _ h => h) (Or.inl ⟨by rfl, ?_⟩) (by assumption) ?_
            rotate_left
            · (intro w hSw; go_simp; try with_reducible rfl)
            (try simp only [Act.put, List.setIfInBounds_toArray, List.set_cons_zero, List.set_cons_succ])
            refine takeL 9 (v := ?_) rfl (by kernel_rfl) (by kernel_rfl) (by kernel_rfl) (fun _ _ _ h => h) (Or.inl ⟨by rfl, ?_⟩) (by assumption) ?_
            rotate_left
            · (intro w hSw; go_simp; try with_reducible rfl)
            (try simp only [Act.put, List.setIfInBounds_toArray, List.set_cons_zero, List.set_cons_succ])
            refine stepL 11 rfl (by kernel_rfl) (fun K hK => ?_)
            (rw [if_pos (by rfl)]; refine wp_store_row 27 _ _ (by rfl) _ cs'.toArray (by rfl) (by rfl) 27 _ (hM2.blk _ rfl).2 hM2.ten' hM2.ten2 hM2.one ?_)
            refine hK.out _ _ ?_ (fun hHeld => ?_)
            · exact below_setRow hM2.bel (hM2.blk _ rfl).1 _
            clear hK K
            (try simp only [Act.put, List.setIfInBounds_toArray, List.set_cons_zero, List.set_cons_succ])
            refine takeL 12 (v := ?_) rfl (by kernel_rfl) (by kernel_rfl) (by kernel_rfl) (fun _ _ _ h => h) (Or.inl ⟨by rfl, ?_⟩) (by assumption) ?_
            rotate_left
            · (intro w hSw; go_simp; try with_reducible rfl)
            (try simp only [Act.put, List.setIfInBounds_toArray, List.set_cons_zero, List.set_cons_succ])
            refine takeL 13 (v := ?_) rfl (by kernel_rfl) (by kernel_rfl) (by kernel_rfl) (fun _ _ _ h => h) (Or.inl ⟨by rfl, ?_⟩) (by assumption) ?_
            rotate_left
            · (intro w hSw; go_simp; try with_reducible rfl)
            (try simp only [Act.put, List.setIfInBounds_toArray, List.set_cons_zero, List.set_cons_succ])
            refine takeL 14 (v := ?_) rfl (by kernel_rfl) (by kernel_rfl) (by kernel_rfl) (fun _ _ _ h => h) (Or.inl ⟨by rfl, ?_⟩) (by assumption) ?_
            rotate_left
            · (intro w hSw; go_simp; try with_reducible rfl)
            (try simp only [Act.put, List.setIfInBounds_toArray, List.set_cons_zero, List.set_cons_succ])
            refine takeL 15 (v := ?_) rfl (by kernel_rfl) (by kernel_rfl) (by kernel_rfl) (fun _ _ _ h => h) (Or.inl ⟨by rfl, ?_⟩) (by assumption) ?_
            rotate_left
            · (intro w hSw; go_simp; try with_reducible rfl)
            (try simp only [Act.put, List.setIfInBounds_toArray, List.set_cons_zero, List.set_cons_succ])
            refine wpAnyH_done (by kernel_rfl) ?_ _
            refine NoPanic.normal ?_
            refine ⟨rfl, ?_⟩
            iterate 15 apply Exists.intro
            refine ⟨?_, hM2.done (a := ac) (c := cc)⟩
            try simp only [Act.put, List.setIfInBounds_toArray, List.set_cons_zero, List.set_cons_succ]
            rfl
          exact AllReadyH.nil
        · clear hM2 rdev2 hYb2 hDl2
          rintro u40 u41 u42 u43 u44 u45 u46 u47 u48 u49 v11 v12 v13 v14 v15 w11 ⟨q2, cs3, dl3, zr3, ar3, nd3, er3, ac3, cc3, rfl, rfl, rfl, rfl, rfl, _, _, _, hA3, _, hb11⟩
          obtain ⟨her3, hzr3⟩ := HAP.out _ _ _ _ _ hA3
          subst her3
          subst hzr3
          have HG11 := Lib.hid (blk_on HG10.out hb11)
          have HB11 := Lib.hid (HB10.out.trans (hb11.mono HB10.out.size))
          have HD11 := Lib.hid (HD10.out.below hb11)
          have r12 := range_of_block (cs := cs') HG11.out
          have hqd : (200 : Int) / (k : Int) = ((200 / k : Nat) : Int) := rfl
          have hem := lempty_any dl cs' w11 HD11.out.is
          rw [fill_empty i k dl HF.out] at hem
          have hMq : (i : Int) * ((200 / k : Nat) : Int) = (M : Int) := by rw [← HMM.out]; simp
          have hwM : IntKind.i64.wrap ((i : Int) * ((200 : Int) / (k : Int))) = (M : Int) := by rw [hqd, hMq]; exact IntWalk.i64_in _ (by omega)
          have hMM2 : ((M : Int) == (M : Int)) = true := by simp
          clear hqd hMq
          have hk0 : ((k : Int) == 0) = false := by rw [beq_eq_false_iff_ne]; omega
          have HEM := Lib.hid hem
          simp only [Act.put, List.setIfInBounds_toArray, List.set_cons_zero, List.set_cons_succ]
          clear hA3 hb11 HG10 HB10 HD10 hem hlcs2 free2
          go_wp2_with (first
            | refine wpList_load_at (by rfl) 27 (.tmp 8) rfl D 0 (by rfl) cs' _ r12 Try.underlying27 rfl hl11 ?_
            | fail)
          refine HEM.out.mono ?_
          rintro e w12 ⟨rfl, hb12⟩
          have HB12 := Lib.hid (HB11.out.trans (hb12.mono HB11.out.size))
          clear hb12 HB11 r12
          go_wp2
          go_ret
          exact ⟨rfl, HB12.out⟩
end Go.Proofs.Ytdiokmaomglefaa
