/- frame.Scan. -/
import Derived.Test.YtdiokmaomglefaaGTwo
import Derived.ScopeJumps
import Derived.WalkMore
import Derived.Test.YtdiokmaomglefaaGPolySum
import Derived.Lib.AppendZeros
namespace Go.Proofs.Ytdiokmaomglefaa
open Go Go.RowKit

theorem row_at {w : World} {g : Nat} {hd : Hd} (h : w.heap[g]? = some (.cells #[.int .i64 hd.kind, .int .i64 hd.lba, .int .i64 hd.len, .int .i64 hd.seq, .int .i64 hd.epoch] 46)) (j : Nat) (u : Value) (hj : (hv hd).toList[j]? = some u) : w.cell? ((⟨g, 0, none⟩ : Addr).add j) = some u := by
  rw [show (⟨g, 0, none⟩ : Addr).add j = ⟨g, 0 + j, none⟩ from Go.WideShapes.add_plain _ _ _, Nat.zero_add, cell_of_block h j]
  simpa [hv] using hj
theorem same2_alloc {A B : Nat} {w W : World} (h : Same2 A B w W) (hA : A < w.heap.size) (hB : B < w.heap.size) (o : Obj) : Same2 A B w (W.alloc o) := by
  have h1 := block_lt (h.1.trans (Array.getElem?_eq_getElem hA))
  have h2 := block_lt (h.2.trans (Array.getElem?_eq_getElem hB))
  exact ⟨(((Below.refl _ W).alloc (Nat.le_refl _) o).block A h1).trans h.1, (((Below.refl _ W).alloc (Nat.le_refl _) o).block B h2).trans h.2⟩
theorem same2_grown {A B : Nat} {w W W' : World} {row : Option Nat} (h : Same2 A B w W) (hg : W.grownBy W' row) (hA : A < w.heap.size) (hB : B < w.heap.size) (nA : ¬ row = some A) (nB : ¬ row = some B) : Same2 A B w W' := by
  have h1 := block_lt (h.1.trans (Array.getElem?_eq_getElem hA))
  have h2 := block_lt (h.2.trans (Array.getElem?_eq_getElem hB))
  exact ⟨(hg.block A h1 (fun e => nA e.symm)).trans h.1, (hg.block B h2 (fun e => nB e.symm)).trans h.2⟩
set_option linter.unusedSimpArgs false in
set_option linter.unusedVariables false in
set_option maxRecDepth 100000 in
set_option maxHeartbeats 4000000 in
theorem scan_any (a : Option Addr) (cap : Nat) (l : List UInt8) (hl : l.length ≤ 1000000) (w : World) (h : Bt w (.slice a l.length cap) l) :
    Calls Try.prog 33 #[.slice a l.length cap] w fun e w' => (∃ vh vp, e = .returned (.tuple #[vh, vp]) ∧ w'.ownsRow w.heap.size 46 5 vh (scanB l).length (hcells (scanB l)) ∧ w'.ownsRow w.heap.size 3 1 vp (scanB l).length (pcells (scanB l))) ∧ Below w.heap.size w w' := by
  have HB := Lib.hid h
  clear h
  go_enter Try.func33, Try.ntmps33
  go_wp2
  refine wp_scope_jumps 0 (fun a' wr => ∃ (i k : Nat) (fs : List (Hd × Nat)) (vh vp u6 u7 u8 u9 u10 u11 u12 u13 u14 u15 u16 u17 u18 u19 u20 u21 u22 u23 u24 u25 u26 u27 u28 : Value), a' = { tmps := #[.slice a l.length cap, .pointer (some ⟨w.heap.size, 0, none⟩), vh, vp, .pointer (some ⟨w.heap.size + 1, 0, none⟩), .func (.func 52) #[] #[.pointer (some ⟨w.heap.size, 0, none⟩), .pointer (some ⟨w.heap.size + 1, 0, none⟩)], u6, u7, u8, u9, u10, u11, u12, u13, u14, u15, u16, u17, u18, u19, u20, u21, u22, u23, u24, u25, u26, u27, u28], defers := [] } ∧ ScanAt w (.slice a l.length cap) i vh fs.length (hcells fs) vp fs.length (pcells fs) wr ∧ scanB l = fs ++ scanF k l i ∧ i ≤ l.length ∧ l.length < i + k ∧ fs.length + k = l.length + 1)
    (fun _ wr => l.length - (intOf ((wr.cell? ⟨w.heap.size + 1, 0, none⟩).getD undef)).toNat) rfl ?_ ?_
  · go_wp2
    go_step3
    go_wp2_with fail
    refine calls_world (fun wr e0 => ?_)
    obtain ⟨g1, g2, hb0, hs0⟩ := two_alloc e0
    clear e0
    obtain ⟨i, hi0⟩ : ∃ i : Nat, i = 0 := ⟨_, rfl⟩
    obtain ⟨k, hk0⟩ : ∃ k, k = l.length + 1 := ⟨_, rfl⟩
    obtain ⟨fs, hf0⟩ : ∃ fs : List (Hd × Nat), fs = [] := ⟨_, rfl⟩
    have hS : ScanAt w (.slice a l.length cap) i (.slice none 0 0) fs.length (hcells fs) (.slice none 0 0) fs.length (pcells fs) wr := by
      subst hi0 hf0
      exact ⟨⟨World.ownsRow_nil _ _ _ _, World.ownsRow_nil _ _ _ _, (fun g e => by cases e), by omega⟩, hb0, g1, g2⟩
    have hsc : scanB l = fs ++ scanF k l i := by subst hi0 hf0 hk0; rfl
    have hil : i ≤ l.length := by omega
    have hik : l.length < i + k := by omega
    have hfk : fs.length + k = l.length + 1 := by subst hf0 hk0; simp
    clear g1 g2 hb0 hs0 hk0 hf0 hi0
    refine (step_any a cap i l hil w.heap.size (w.heap.size + 1) wr (HB.out.below hS.bel) (cell_of_block hS.box 0) (cell_of_block hS.at_ 0)).mono ?_
    rintro e w1 ⟨rfl, hb1⟩
    have hS1 := hS.on hb1
    have gM := one_alloc (w := w1) (o1 := .cells #[.int .i64 0, .int .i64 0, .int .i64 0, .int .i64 0, .int .i64 0] 46) rfl
    have HSC := Lib.hid hsc
    have HFK := Lib.hid hfk
    rcases scan_step l i k hil hik with ⟨h0, hnil⟩ | ⟨hd, s, k', hst, hs0, hk', hcons, hle, hlt⟩
    · rw [h0]
      generalize (stepF l i).1 = hd
      simp only [hv]
      have HN := Lib.hid hnil
      clear hnil h0 hsc hfk
      go_wp2_with (first
        | (refine wpList_lay (by rfl) 46 (.tmp 6) (.tmp 12) (by rfl) w1.heap.size (hv hd) (by rfl) (by rfl) _ _ gM.1 5 (by kernel_rfl) (by rfl) (by rfl) (hv_one _) ?_
           intro w2 hL2
           have hS2 := hS1.on (gM.2.1.trans hL2.bel)
           have HS2 := Lib.hid hS2
           clear hS1 hS2 hb1 hS gM hL2)
        | fail)
      simp only [Exit.jump]
      refine bodyPost_ret (results_tmp2 rfl _ _ _) rfl ?_
      rw [HSC.out, HN.out, List.append_nil]
      exact ⟨⟨_, _, rfl, owns_base HS2.out.two.oh (by omega), owns_base HS2.out.two.op (by omega)⟩, HS2.out.bel⟩
    · rw [hst]
      simp only [hv]
      have hz : ((s : Int) == 0) = false := by rw [beq_eq_false_iff_ne]; omega
      have hfl : fs.length ≤ 1000001 := by omega
      have HCO := Lib.hid hcons
      have HK' := Lib.hid hk'
      clear hst hcons hsc hk' hfk
      go_wp2_with (first
        | (refine wpList_lay (by rfl) 46 (.tmp 6) (.tmp 12) (by rfl) w1.heap.size (hv hd) (by rfl) (by rfl) _ _ gM.1 5 (by kernel_rfl) (by rfl) (by rfl) (hv_one _) ?_
           intro w2 hL2
           have hS2 := hS1.on (gM.2.1.trans hL2.bel)
           have hne1 : ∀ q, Value.ownBlock (.slice none 0 0) = some q → q < w1.heap.size ∧ w.heap.size + 2 ≤ q := fun q e => ⟨(ownBlock_lt hS1.two.oh e).2, (ownBlock_lt hS1.two.oh e).1⟩
           have hne3 : ∀ q, Value.ownBlock (.slice none 0 0) = some q → q < w1.heap.size ∧ w.heap.size + 2 ≤ q := fun q e => ⟨(ownBlock_lt hS1.two.op e).2, (ownBlock_lt hS1.two.op e).1⟩
           have hD2 : w2.heap[w1.heap.size]? = some (.cells #[.int .i64 hd.kind, .int .i64 hd.lba, .int .i64 hd.len, .int .i64 hd.seq, .int .i64 hd.epoch] 46) := hL2.blk
           clear hS1 hb1 hS gM hL2)
        | fail)
      have hS2d : ScanAt w (.slice a l.length cap) i _ _ _ _ _ _ w2.drew := hS2.on (below_self_drew w2)
      have SA1 := hS2d.on ((Below.refl _ w2.drew).alloc (Nat.le_refl _) (.cells #[.int .i64 hd.kind, .int .i64 hd.lba, .int .i64 hd.len, .int .i64 hd.seq, .int .i64 hd.epoch] 46))
      have X12 := two_alloc (w := w2.drew) (o1 := .cells #[.int .i64 hd.kind, .int .i64 hd.lba, .int .i64 hd.len, .int .i64 hd.seq, .int .i64 hd.epoch] 46) (o2 := .cells #[.int .i64 (i : Int)] 3) rfl
      have X21 := two_alloc (w := w2.drew) (o1 := .cells #[.int .i64 (i : Int)] 3) (o2 := .cells #[.int .i64 hd.kind, .int .i64 hd.lba, .int .i64 hd.len, .int .i64 hd.seq, .int .i64 hd.epoch] 46) rfl
      have SA12 := hS2d.on X12.2.2.1
      have SA21 := hS2d.on X21.2.2.1
      have hk1 : ∀ j u, (hv hd).toList[j]? = some u → (w2.drew.alloc (.cells #[.int .i64 hd.kind, .int .i64 hd.lba, .int .i64 hd.len, .int .i64 hd.seq, .int .i64 hd.epoch] 46)).cell? ((⟨w2.heap.size, 0, none⟩ : Addr).add j) = some u := fun j u hj => row_at (heap_alloc_new w2.drew (.cells #[.int .i64 hd.kind, .int .i64 hd.lba, .int .i64 hd.len, .int .i64 hd.seq, .int .i64 hd.epoch] 46)) j u hj
      have hk12 := fun j u hj => row_at (hd := hd) X12.1 j u hj
      have hk21 := fun j u hj => row_at (hd := hd) X21.2.1 j u hj
      have gp12 := X12.2.1
      have gp21 := X21.1
      have hlt2 : ∀ q, Value.ownBlock (.slice none 0 0) = some q → q < w2.heap.size := fun q e => (ownBlock_lt hS2.two.oh e).2
      have q0 : ∀ wz, Same2 w1.heap.size (w.heap.size + 1) w2 wz → wz.cell? ⟨w1.heap.size, 0, none⟩ = some (.int .i64 hd.kind) := fun wz hz => (World.cell?_of_block (a := ⟨w1.heap.size, 0, none⟩) hz.1).trans ((cell_of_block hD2 0).trans rfl)
      have q1 : ∀ wz, Same2 w1.heap.size (w.heap.size + 1) w2 wz → wz.cell? ⟨w1.heap.size, 1, none⟩ = some (.int .i64 hd.lba) := fun wz hz => (World.cell?_of_block (a := ⟨w1.heap.size, 1, none⟩) hz.1).trans ((cell_of_block hD2 1).trans rfl)
      have q2 : ∀ wz, Same2 w1.heap.size (w.heap.size + 1) w2 wz → wz.cell? ⟨w1.heap.size, 2, none⟩ = some (.int .i64 hd.len) := fun wz hz => (World.cell?_of_block (a := ⟨w1.heap.size, 2, none⟩) hz.1).trans ((cell_of_block hD2 2).trans rfl)
      have q3 : ∀ wz, Same2 w1.heap.size (w.heap.size + 1) w2 wz → wz.cell? ⟨w1.heap.size, 3, none⟩ = some (.int .i64 hd.seq) := fun wz hz => (World.cell?_of_block (a := ⟨w1.heap.size, 3, none⟩) hz.1).trans ((cell_of_block hD2 3).trans rfl)
      have q4 : ∀ wz, Same2 w1.heap.size (w.heap.size + 1) w2 wz → wz.cell? ⟨w1.heap.size, 4, none⟩ = some (.int .i64 hd.epoch) := fun wz hz => (World.cell?_of_block (a := ⟨w1.heap.size, 4, none⟩) hz.1).trans ((cell_of_block hD2 4).trans rfl)
      have qa : ∀ wz, Same2 w1.heap.size (w.heap.size + 1) w2 wz → wz.cell? ⟨w.heap.size + 1, 0, none⟩ = some (.int .i64 (i : Int)) := fun wz hz => (World.cell?_of_block (a := ⟨w.heap.size + 1, 0, none⟩) hz.2).trans ((cell_of_block hS2.at_ 0).trans rfl)
      have hDl := block_lt hD2
      have hEl := block_lt hS2.at_
      have e1 : IntKind.i64.wrap ((i : Int) + (s : Int)) = ((i + s : Nat) : Int) := by rw [Int.natCast_add]; exact IntWalk.i64_in _ (by omega)
      clear X12 X21 hS2d
      refine wp_region_noPanic ?_
      refine wp_region_held_drew (S := (fun wz => Same2 w1.heap.size (w.heap.size + 1) w2 wz)) (by kernel_rfl) ?_ (fun hHeld => ?_)
      · exact ⟨rfl, rfl⟩
      refine takeL 0 (v := ?_) rfl (by kernel_rfl) (by kernel_rfl) (by kernel_rfl) (fun _ _ _ h => h) (Or.inl ⟨by rfl, ?_⟩) (by assumption) ?_
      rotate_left
      · (intro w hSw; go_simp; try with_reducible rfl)
      (try simp only [Act.put, List.setIfInBounds_toArray, List.set_cons_zero, List.set_cons_succ])
      refine takeL 1 (v := ?_) rfl (by kernel_rfl) (by kernel_rfl) (by kernel_rfl) (fun _ _ _ h => h) (Or.inl ⟨by rfl, ?_⟩) (by assumption) ?_
      rotate_left
      · (intro w hSw; go_simp; try with_reducible rfl)
      (try simp only [Act.put, List.setIfInBounds_toArray, List.set_cons_zero, List.set_cons_succ])
      refine takeL 4 (v := ?_) rfl (by kernel_rfl) (by kernel_rfl) (by kernel_rfl) (fun _ _ _ h => h) (Or.inl ⟨by rfl, ?_⟩) (by assumption) ?_
      rotate_left
      · (intro w hSw; go_simp; try with_reducible rfl)
      (try simp only [Act.put, List.setIfInBounds_toArray, List.set_cons_zero, List.set_cons_succ])
      refine takeL 5 (v := ?_) rfl (by kernel_rfl) (by kernel_rfl) (by kernel_rfl) (fun _ _ _ h => h) (Or.inl ⟨by rfl, ?_⟩) (by assumption) ?_
      rotate_left
      · (intro w hSw; go_simp; try with_reducible rfl)
      (try simp only [Act.put, List.setIfInBounds_toArray, List.set_cons_zero, List.set_cons_succ])
      refine wpAnyH_ready (rs := [2, 6]) (by kernel_rfl) (by simp) ?_
      refine consL 2 rfl ?_ (fun K hK => ?_)
      rotate_left
      · skip
        go_simp
        refine hK.out _ _ ?_ (fun hHeld => ?_)
        · exact same2_alloc (by assumption) hDl hEl _
        clear hK K
        (try simp only [Act.put, List.setIfInBounds_toArray, List.set_cons_zero, List.set_cons_succ])
        refine wpAnyH_ready (rs := [3, 6]) (by kernel_rfl) (by simp) ?_
        refine consL 3 rfl ?_ (fun K hK => ?_)
        rotate_left
        · skip
          (rw [if_pos (by rfl)]; (obtain ⟨v3, w3, hr3, hS3, ⟨a3, c3, rfl⟩, hg3⟩ := SA1.appH w2.heap.size hd hk1 (by omega); refine Lib.wp_append_run _ (.tmp 18) (.tmp 20) 54 54 (by rfl) _ _ (by rfl) (by rfl) _ w3 hr3 ?_; have pb := trivial))
          refine hK.out _ _ ?_ (fun hHeld => ?_)
          · exact same2_grown (by assumption) hg3 hDl hEl (fun e => by have := hne1 _ e; omega) (fun e => by have := hne1 _ e; omega)
          clear hK K
          (try simp only [Act.put, List.setIfInBounds_toArray, List.set_cons_zero, List.set_cons_succ])
          refine stepL 6 rfl (by kernel_rfl) (fun K hK => ?_)
          go_simp
          refine hK.out _ _ ?_ (fun hHeld => ?_)
          · exact same2_alloc (by assumption) hDl hEl _
          clear hK K
          (try simp only [Act.put, List.setIfInBounds_toArray, List.set_cons_zero, List.set_cons_succ])
          refine stepL 7 rfl (by kernel_rfl) (fun K hK => ?_)
          (rw [if_pos (by rfl)]; (obtain ⟨v7, w7, hr7, hS7, ⟨a7, c7, rfl⟩, hg7⟩ := (hS3.on ((Below.refl _ w3).alloc (Nat.le_refl _) (.cells #[.int .i64 (i : Int)] 3))).appP w3.heap.size i (cell_of_block (heap_alloc_new w3 (.cells #[.int .i64 (i : Int)] 3)) 0) (by omega); refine Lib.wp_append_run _ (.tmp 22) (.tmp 24) 74 74 (by rfl) _ _ (by rfl) (by rfl) _ w7 hr7 ?_))
          refine hK.out _ _ ?_ (fun hHeld => ?_)
          · exact same2_grown (by assumption) hg7 hDl hEl (fun e => by have := hne3 _ e; omega) (fun e => by have := hne3 _ e; omega)
          clear hK K
          (try simp only [Act.put, List.setIfInBounds_toArray, List.set_cons_zero, List.set_cons_succ])
          refine takeL 8 (v := ?_) rfl (by kernel_rfl) (by kernel_rfl) (by kernel_rfl) (fun _ _ _ h => h) (Or.inl ⟨by rfl, ?_⟩) (by assumption) ?_
          rotate_left
          · (intro w hSw; go_simp; try with_reducible rfl)
          (try simp only [Act.put, List.setIfInBounds_toArray, List.set_cons_zero, List.set_cons_succ])
          refine takeL 9 (v := ?_) rfl (by kernel_rfl) (by kernel_rfl) (by kernel_rfl) (fun _ _ _ h => h) (Or.inl ⟨by rfl, ?_⟩) (by assumption) ?_
          rotate_left
          · (intro w hSw; go_simp; try with_reducible rfl)
          (try simp only [Act.put, List.setIfInBounds_toArray, List.set_cons_zero, List.set_cons_succ])
          refine wpAnyH_done (by kernel_rfl) ?_ _
          refine NoPanic.normal ?_
          have r4 := cell_of_block hS7.at_ 0
          have f4 := thawed hS7.at_ 0
          have r4' : w7.cell? ⟨w.heap.size + 1, 0, none⟩ = some (.int .i64 (i : Int)) := r4
          have HS8 := Lib.hid (hS7.set (i + s))
          clear hS7 hS3 hg7 hr7 hr3 pb r4 hg3
          go_wp2
          go_step3
          have hfs : hcells (fs ++ [(hd, i)]) = hcells fs ++ (hv hd).toList := hcells_snoc _ _
          have hps : pcells (fs ++ [(hd, i)]) = pcells fs ++ [.int .i64 (i : Int)] := pcells_snoc _ _
          have hln : (fs ++ [(hd, i)]).length = fs.length + 1 := by simp
          exact ⟨rfl, ⟨i + s, k', fs ++ [(hd, i)], _, _, _, _, _, _, _, _, _, _, _, _, _, _, _, _, _, _, _, _, _, _, _, _, _, rfl, (by rw [hfs, hps, hln]; exact HS8.out), (by rw [HSC.out, HCO.out]; simp), by omega, by omega, by rw [hln]; have := HFK.out; have := HK'.out; omega⟩⟩
        refine consL 6 rfl ?_ (fun K hK => ?_)
        rotate_left
        · skip
          go_simp
          refine hK.out _ _ ?_ (fun hHeld => ?_)
          · exact same2_alloc (by assumption) hDl hEl _
          clear hK K
          (try simp only [Act.put, List.setIfInBounds_toArray, List.set_cons_zero, List.set_cons_succ])
          refine stepL 3 rfl (by kernel_rfl) (fun K hK => ?_)
          (rw [if_pos (by rfl)]; (obtain ⟨v3, w3, hr3, hS3, ⟨a3, c3, rfl⟩, hg3⟩ := SA12.appH w2.heap.size hd hk12 (by omega); refine Lib.wp_append_run _ (.tmp 18) (.tmp 20) 54 54 (by rfl) _ _ (by rfl) (by rfl) _ w3 hr3 ?_; have pb := (hg3.block (w2.heap.size + 1) (by simp) (fun e => by have := hlt2 _ e.symm; omega)).trans gp12))
          refine hK.out _ _ ?_ (fun hHeld => ?_)
          · exact same2_grown (by assumption) hg3 hDl hEl (fun e => by have := hne1 _ e; omega) (fun e => by have := hne1 _ e; omega)
          clear hK K
          (try simp only [Act.put, List.setIfInBounds_toArray, List.set_cons_zero, List.set_cons_succ])
          refine stepL 7 rfl (by kernel_rfl) (fun K hK => ?_)
          (rw [if_pos (by rfl)]; (obtain ⟨v7, w7, hr7, hS7, ⟨a7, c7, rfl⟩, hg7⟩ := hS3.appP (w2.heap.size + 1) i (cell_of_block pb 0) (by omega); refine Lib.wp_append_run _ (.tmp 22) (.tmp 24) 74 74 (by rfl) _ _ (by rfl) (by rfl) _ w7 hr7 ?_))
          refine hK.out _ _ ?_ (fun hHeld => ?_)
          · exact same2_grown (by assumption) hg7 hDl hEl (fun e => by have := hne3 _ e; omega) (fun e => by have := hne3 _ e; omega)
          clear hK K
          (try simp only [Act.put, List.setIfInBounds_toArray, List.set_cons_zero, List.set_cons_succ])
          refine takeL 8 (v := ?_) rfl (by kernel_rfl) (by kernel_rfl) (by kernel_rfl) (fun _ _ _ h => h) (Or.inl ⟨by rfl, ?_⟩) (by assumption) ?_
          rotate_left
          · (intro w hSw; go_simp; try with_reducible rfl)
          (try simp only [Act.put, List.setIfInBounds_toArray, List.set_cons_zero, List.set_cons_succ])
          refine takeL 9 (v := ?_) rfl (by kernel_rfl) (by kernel_rfl) (by kernel_rfl) (fun _ _ _ h => h) (Or.inl ⟨by rfl, ?_⟩) (by assumption) ?_
          rotate_left
          · (intro w hSw; go_simp; try with_reducible rfl)
          (try simp only [Act.put, List.setIfInBounds_toArray, List.set_cons_zero, List.set_cons_succ])
          refine wpAnyH_done (by kernel_rfl) ?_ _
          refine NoPanic.normal ?_
          have r4 := cell_of_block hS7.at_ 0
          have f4 := thawed hS7.at_ 0
          have r4' : w7.cell? ⟨w.heap.size + 1, 0, none⟩ = some (.int .i64 (i : Int)) := r4
          have HS8 := Lib.hid (hS7.set (i + s))
          clear hS7 hS3 hg7 hr7 hr3 pb r4 hg3
          go_wp2
          go_step3
          have hfs : hcells (fs ++ [(hd, i)]) = hcells fs ++ (hv hd).toList := hcells_snoc _ _
          have hps : pcells (fs ++ [(hd, i)]) = pcells fs ++ [.int .i64 (i : Int)] := pcells_snoc _ _
          have hln : (fs ++ [(hd, i)]).length = fs.length + 1 := by simp
          exact ⟨rfl, ⟨i + s, k', fs ++ [(hd, i)], _, _, _, _, _, _, _, _, _, _, _, _, _, _, _, _, _, _, _, _, _, _, _, _, _, rfl, (by rw [hfs, hps, hln]; exact HS8.out), (by rw [HSC.out, HCO.out]; simp), by omega, by omega, by rw [hln]; have := HFK.out; have := HK'.out; omega⟩⟩
        exact AllReadyH.nil
      refine consL 6 rfl ?_ (fun K hK => ?_)
      rotate_left
      · skip
        go_simp
        refine hK.out _ _ ?_ (fun hHeld => ?_)
        · exact same2_alloc (by assumption) hDl hEl _
        clear hK K
        (try simp only [Act.put, List.setIfInBounds_toArray, List.set_cons_zero, List.set_cons_succ])
        refine stepL 2 rfl (by kernel_rfl) (fun K hK => ?_)
        go_simp
        refine hK.out _ _ ?_ (fun hHeld => ?_)
        · exact same2_alloc (by assumption) hDl hEl _
        clear hK K
        (try simp only [Act.put, List.setIfInBounds_toArray, List.set_cons_zero, List.set_cons_succ])
        refine stepL 3 rfl (by kernel_rfl) (fun K hK => ?_)
        (rw [if_pos (by rfl)]; (obtain ⟨v3, w3, hr3, hS3, ⟨a3, c3, rfl⟩, hg3⟩ := SA21.appH (w2.heap.size + 1) hd hk21 (by omega); refine Lib.wp_append_run _ (.tmp 18) (.tmp 20) 54 54 (by rfl) _ _ (by rfl) (by rfl) _ w3 hr3 ?_; have pb := (hg3.block w2.heap.size (by simp; omega) (fun e => by have := hlt2 _ e.symm; omega)).trans gp21))
        refine hK.out _ _ ?_ (fun hHeld => ?_)
        · exact same2_grown (by assumption) hg3 hDl hEl (fun e => by have := hne1 _ e; omega) (fun e => by have := hne1 _ e; omega)
        clear hK K
        (try simp only [Act.put, List.setIfInBounds_toArray, List.set_cons_zero, List.set_cons_succ])
        refine stepL 7 rfl (by kernel_rfl) (fun K hK => ?_)
        (rw [if_pos (by rfl)]; (obtain ⟨v7, w7, hr7, hS7, ⟨a7, c7, rfl⟩, hg7⟩ := hS3.appP w2.heap.size i (cell_of_block pb 0) (by omega); refine Lib.wp_append_run _ (.tmp 22) (.tmp 24) 74 74 (by rfl) _ _ (by rfl) (by rfl) _ w7 hr7 ?_))
        refine hK.out _ _ ?_ (fun hHeld => ?_)
        · exact same2_grown (by assumption) hg7 hDl hEl (fun e => by have := hne3 _ e; omega) (fun e => by have := hne3 _ e; omega)
        clear hK K
        (try simp only [Act.put, List.setIfInBounds_toArray, List.set_cons_zero, List.set_cons_succ])
        refine takeL 8 (v := ?_) rfl (by kernel_rfl) (by kernel_rfl) (by kernel_rfl) (fun _ _ _ h => h) (Or.inl ⟨by rfl, ?_⟩) (by assumption) ?_
        rotate_left
        · (intro w hSw; go_simp; try with_reducible rfl)
        (try simp only [Act.put, List.setIfInBounds_toArray, List.set_cons_zero, List.set_cons_succ])
        refine takeL 9 (v := ?_) rfl (by kernel_rfl) (by kernel_rfl) (by kernel_rfl) (fun _ _ _ h => h) (Or.inl ⟨by rfl, ?_⟩) (by assumption) ?_
        rotate_left
        · (intro w hSw; go_simp; try with_reducible rfl)
        (try simp only [Act.put, List.setIfInBounds_toArray, List.set_cons_zero, List.set_cons_succ])
        refine wpAnyH_done (by kernel_rfl) ?_ _
        refine NoPanic.normal ?_
        have r4 := cell_of_block hS7.at_ 0
        have f4 := thawed hS7.at_ 0
        have r4' : w7.cell? ⟨w.heap.size + 1, 0, none⟩ = some (.int .i64 (i : Int)) := r4
        have HS8 := Lib.hid (hS7.set (i + s))
        clear hS7 hS3 hg7 hr7 hr3 pb r4 hg3
        go_wp2
        go_step3
        have hfs : hcells (fs ++ [(hd, i)]) = hcells fs ++ (hv hd).toList := hcells_snoc _ _
        have hps : pcells (fs ++ [(hd, i)]) = pcells fs ++ [.int .i64 (i : Int)] := pcells_snoc _ _
        have hln : (fs ++ [(hd, i)]).length = fs.length + 1 := by simp
        exact ⟨rfl, ⟨i + s, k', fs ++ [(hd, i)], _, _, _, _, _, _, _, _, _, _, _, _, _, _, _, _, _, _, _, _, _, _, _, _, _, rfl, (by rw [hfs, hps, hln]; exact HS8.out), (by rw [HSC.out, HCO.out]; simp), by omega, by omega, by rw [hln]; have := HFK.out; have := HK'.out; omega⟩⟩
      exact AllReadyH.nil
  · rintro a' wr ⟨i, k, fs, vh, vp, u6, u7, u8, u9, u10, u11, u12, u13, u14, u15, u16, u17, u18, u19, u20, u21, u22, u23, u24, u25, u26, u27, u28, rfl, hS, hsc, hil, hik, hfk⟩
    have HAT := Lib.hid (cell_of_block hS.at_ 0)
    go_wp2_with fail
    refine (step_any a cap i l hil w.heap.size (w.heap.size + 1) wr (HB.out.below hS.bel) (cell_of_block hS.box 0) (cell_of_block hS.at_ 0)).mono ?_
    rintro e w1 ⟨rfl, hb1⟩
    have hS1 := hS.on hb1
    have gM := one_alloc (w := w1) (o1 := .cells #[.int .i64 0, .int .i64 0, .int .i64 0, .int .i64 0, .int .i64 0] 46) rfl
    have HSC := Lib.hid hsc
    have HFK := Lib.hid hfk
    rcases scan_step l i k hil hik with ⟨h0, hnil⟩ | ⟨hd, s, k', hst, hs0, hk', hcons, hle, hlt⟩
    · rw [h0]
      generalize (stepF l i).1 = hd
      simp only [hv]
      have HN := Lib.hid hnil
      clear hnil h0 hsc hfk
      go_wp2_with (first
        | (refine wpList_lay (by rfl) 46 (.tmp 6) (.tmp 12) (by rfl) w1.heap.size (hv hd) (by rfl) (by rfl) _ _ gM.1 5 (by kernel_rfl) (by rfl) (by rfl) (hv_one _) ?_
           intro w2 hL2
           have hS2 := hS1.on (gM.2.1.trans hL2.bel)
           have HS2 := Lib.hid hS2
           clear hS1 hS2 hb1 hS gM hL2)
        | fail)
      simp only [Exit.jump]
      refine bodyPost_ret (results_tmp2 rfl _ _ _) rfl ?_
      rw [HSC.out, HN.out, List.append_nil]
      exact ⟨⟨_, _, rfl, owns_base HS2.out.two.oh (by omega), owns_base HS2.out.two.op (by omega)⟩, HS2.out.bel⟩
    · rw [hst]
      simp only [hv]
      have hz : ((s : Int) == 0) = false := by rw [beq_eq_false_iff_ne]; omega
      have hfl : fs.length ≤ 1000001 := by omega
      have HCO := Lib.hid hcons
      have HK' := Lib.hid hk'
      clear hst hcons hsc hk' hfk
      go_wp2_with (first
        | (refine wpList_lay (by rfl) 46 (.tmp 6) (.tmp 12) (by rfl) w1.heap.size (hv hd) (by rfl) (by rfl) _ _ gM.1 5 (by kernel_rfl) (by rfl) (by rfl) (hv_one _) ?_
           intro w2 hL2
           have hS2 := hS1.on (gM.2.1.trans hL2.bel)
           have hne1 : ∀ q, Value.ownBlock vh = some q → q < w1.heap.size ∧ w.heap.size + 2 ≤ q := fun q e => ⟨(ownBlock_lt hS1.two.oh e).2, (ownBlock_lt hS1.two.oh e).1⟩
           have hne3 : ∀ q, Value.ownBlock vp = some q → q < w1.heap.size ∧ w.heap.size + 2 ≤ q := fun q e => ⟨(ownBlock_lt hS1.two.op e).2, (ownBlock_lt hS1.two.op e).1⟩
           have hD2 : w2.heap[w1.heap.size]? = some (.cells #[.int .i64 hd.kind, .int .i64 hd.lba, .int .i64 hd.len, .int .i64 hd.seq, .int .i64 hd.epoch] 46) := hL2.blk
           clear hS1 hb1 hS gM hL2)
        | fail)
      have hS2d : ScanAt w (.slice a l.length cap) i _ _ _ _ _ _ w2.drew := hS2.on (below_self_drew w2)
      have SA1 := hS2d.on ((Below.refl _ w2.drew).alloc (Nat.le_refl _) (.cells #[.int .i64 hd.kind, .int .i64 hd.lba, .int .i64 hd.len, .int .i64 hd.seq, .int .i64 hd.epoch] 46))
      have X12 := two_alloc (w := w2.drew) (o1 := .cells #[.int .i64 hd.kind, .int .i64 hd.lba, .int .i64 hd.len, .int .i64 hd.seq, .int .i64 hd.epoch] 46) (o2 := .cells #[.int .i64 (i : Int)] 3) rfl
      have X21 := two_alloc (w := w2.drew) (o1 := .cells #[.int .i64 (i : Int)] 3) (o2 := .cells #[.int .i64 hd.kind, .int .i64 hd.lba, .int .i64 hd.len, .int .i64 hd.seq, .int .i64 hd.epoch] 46) rfl
      have SA12 := hS2d.on X12.2.2.1
      have SA21 := hS2d.on X21.2.2.1
      have hk1 : ∀ j u, (hv hd).toList[j]? = some u → (w2.drew.alloc (.cells #[.int .i64 hd.kind, .int .i64 hd.lba, .int .i64 hd.len, .int .i64 hd.seq, .int .i64 hd.epoch] 46)).cell? ((⟨w2.heap.size, 0, none⟩ : Addr).add j) = some u := fun j u hj => row_at (heap_alloc_new w2.drew (.cells #[.int .i64 hd.kind, .int .i64 hd.lba, .int .i64 hd.len, .int .i64 hd.seq, .int .i64 hd.epoch] 46)) j u hj
      have hk12 := fun j u hj => row_at (hd := hd) X12.1 j u hj
      have hk21 := fun j u hj => row_at (hd := hd) X21.2.1 j u hj
      have gp12 := X12.2.1
      have gp21 := X21.1
      have hlt2 : ∀ q, Value.ownBlock vh = some q → q < w2.heap.size := fun q e => (ownBlock_lt hS2.two.oh e).2
      have q0 : ∀ wz, Same2 w1.heap.size (w.heap.size + 1) w2 wz → wz.cell? ⟨w1.heap.size, 0, none⟩ = some (.int .i64 hd.kind) := fun wz hz => (World.cell?_of_block (a := ⟨w1.heap.size, 0, none⟩) hz.1).trans ((cell_of_block hD2 0).trans rfl)
      have q1 : ∀ wz, Same2 w1.heap.size (w.heap.size + 1) w2 wz → wz.cell? ⟨w1.heap.size, 1, none⟩ = some (.int .i64 hd.lba) := fun wz hz => (World.cell?_of_block (a := ⟨w1.heap.size, 1, none⟩) hz.1).trans ((cell_of_block hD2 1).trans rfl)
      have q2 : ∀ wz, Same2 w1.heap.size (w.heap.size + 1) w2 wz → wz.cell? ⟨w1.heap.size, 2, none⟩ = some (.int .i64 hd.len) := fun wz hz => (World.cell?_of_block (a := ⟨w1.heap.size, 2, none⟩) hz.1).trans ((cell_of_block hD2 2).trans rfl)
      have q3 : ∀ wz, Same2 w1.heap.size (w.heap.size + 1) w2 wz → wz.cell? ⟨w1.heap.size, 3, none⟩ = some (.int .i64 hd.seq) := fun wz hz => (World.cell?_of_block (a := ⟨w1.heap.size, 3, none⟩) hz.1).trans ((cell_of_block hD2 3).trans rfl)
      have q4 : ∀ wz, Same2 w1.heap.size (w.heap.size + 1) w2 wz → wz.cell? ⟨w1.heap.size, 4, none⟩ = some (.int .i64 hd.epoch) := fun wz hz => (World.cell?_of_block (a := ⟨w1.heap.size, 4, none⟩) hz.1).trans ((cell_of_block hD2 4).trans rfl)
      have qa : ∀ wz, Same2 w1.heap.size (w.heap.size + 1) w2 wz → wz.cell? ⟨w.heap.size + 1, 0, none⟩ = some (.int .i64 (i : Int)) := fun wz hz => (World.cell?_of_block (a := ⟨w.heap.size + 1, 0, none⟩) hz.2).trans ((cell_of_block hS2.at_ 0).trans rfl)
      have hDl := block_lt hD2
      have hEl := block_lt hS2.at_
      have e1 : IntKind.i64.wrap ((i : Int) + (s : Int)) = ((i + s : Nat) : Int) := by rw [Int.natCast_add]; exact IntWalk.i64_in _ (by omega)
      clear X12 X21 hS2d
      refine wp_region_noPanic ?_
      refine wp_region_held_drew (S := (fun wz => Same2 w1.heap.size (w.heap.size + 1) w2 wz)) (by kernel_rfl) ?_ (fun hHeld => ?_)
      · exact ⟨rfl, rfl⟩
      refine takeL 0 (v := ?_) rfl (by kernel_rfl) (by kernel_rfl) (by kernel_rfl) (fun _ _ _ h => h) (Or.inl ⟨by rfl, ?_⟩) (by assumption) ?_
      rotate_left
      · (intro w hSw; go_simp; try with_reducible rfl)
      (try simp only [Act.put, List.setIfInBounds_toArray, List.set_cons_zero, List.set_cons_succ])
      refine takeL 1 (v := ?_) rfl (by kernel_rfl) (by kernel_rfl) (by kernel_rfl) (fun _ _ _ h => h) (Or.inl ⟨by rfl, ?_⟩) (by assumption) ?_
      rotate_left
      · (intro w hSw; go_simp; try with_reducible rfl)
      (try simp only [Act.put, List.setIfInBounds_toArray, List.set_cons_zero, List.set_cons_succ])
      refine takeL 4 (v := ?_) rfl (by kernel_rfl) (by kernel_rfl) (by kernel_rfl) (fun _ _ _ h => h) (Or.inl ⟨by rfl, ?_⟩) (by assumption) ?_
      rotate_left
      · (intro w hSw; go_simp; try with_reducible rfl)
      (try simp only [Act.put, List.setIfInBounds_toArray, List.set_cons_zero, List.set_cons_succ])
      refine takeL 5 (v := ?_) rfl (by kernel_rfl) (by kernel_rfl) (by kernel_rfl) (fun _ _ _ h => h) (Or.inl ⟨by rfl, ?_⟩) (by assumption) ?_
      rotate_left
      · (intro w hSw; go_simp; try with_reducible rfl)
      (try simp only [Act.put, List.setIfInBounds_toArray, List.set_cons_zero, List.set_cons_succ])
      refine wpAnyH_ready (rs := [2, 6]) (by kernel_rfl) (by simp) ?_
      refine consL 2 rfl ?_ (fun K hK => ?_)
      rotate_left
      · skip
        go_simp
        refine hK.out _ _ ?_ (fun hHeld => ?_)
        · exact same2_alloc (by assumption) hDl hEl _
        clear hK K
        (try simp only [Act.put, List.setIfInBounds_toArray, List.set_cons_zero, List.set_cons_succ])
        refine wpAnyH_ready (rs := [3, 6]) (by kernel_rfl) (by simp) ?_
        refine consL 3 rfl ?_ (fun K hK => ?_)
        rotate_left
        · skip
          (rw [if_pos (by rfl)]; (obtain ⟨v3, w3, hr3, hS3, ⟨a3, c3, rfl⟩, hg3⟩ := SA1.appH w2.heap.size hd hk1 (by omega); refine Lib.wp_append_run _ (.tmp 18) (.tmp 20) 54 54 (by rfl) _ _ (by rfl) (by rfl) _ w3 hr3 ?_; have pb := trivial))
          refine hK.out _ _ ?_ (fun hHeld => ?_)
          · exact same2_grown (by assumption) hg3 hDl hEl (fun e => by have := hne1 _ e; omega) (fun e => by have := hne1 _ e; omega)
          clear hK K
          (try simp only [Act.put, List.setIfInBounds_toArray, List.set_cons_zero, List.set_cons_succ])
          refine stepL 6 rfl (by kernel_rfl) (fun K hK => ?_)
          go_simp
          refine hK.out _ _ ?_ (fun hHeld => ?_)
          · exact same2_alloc (by assumption) hDl hEl _
          clear hK K
          (try simp only [Act.put, List.setIfInBounds_toArray, List.set_cons_zero, List.set_cons_succ])
          refine stepL 7 rfl (by kernel_rfl) (fun K hK => ?_)
          (rw [if_pos (by rfl)]; (obtain ⟨v7, w7, hr7, hS7, ⟨a7, c7, rfl⟩, hg7⟩ := (hS3.on ((Below.refl _ w3).alloc (Nat.le_refl _) (.cells #[.int .i64 (i : Int)] 3))).appP w3.heap.size i (cell_of_block (heap_alloc_new w3 (.cells #[.int .i64 (i : Int)] 3)) 0) (by omega); refine Lib.wp_append_run _ (.tmp 22) (.tmp 24) 74 74 (by rfl) _ _ (by rfl) (by rfl) _ w7 hr7 ?_))
          refine hK.out _ _ ?_ (fun hHeld => ?_)
          · exact same2_grown (by assumption) hg7 hDl hEl (fun e => by have := hne3 _ e; omega) (fun e => by have := hne3 _ e; omega)
          clear hK K
          (try simp only [Act.put, List.setIfInBounds_toArray, List.set_cons_zero, List.set_cons_succ])
          refine takeL 8 (v := ?_) rfl (by kernel_rfl) (by kernel_rfl) (by kernel_rfl) (fun _ _ _ h => h) (Or.inl ⟨by rfl, ?_⟩) (by assumption) ?_
          rotate_left
          · (intro w hSw; go_simp; try with_reducible rfl)
          (try simp only [Act.put, List.setIfInBounds_toArray, List.set_cons_zero, List.set_cons_succ])
          refine takeL 9 (v := ?_) rfl (by kernel_rfl) (by kernel_rfl) (by kernel_rfl) (fun _ _ _ h => h) (Or.inl ⟨by rfl, ?_⟩) (by assumption) ?_
          rotate_left
          · (intro w hSw; go_simp; try with_reducible rfl)
          (try simp only [Act.put, List.setIfInBounds_toArray, List.set_cons_zero, List.set_cons_succ])
          refine wpAnyH_done (by kernel_rfl) ?_ _
          refine NoPanic.normal ?_
          have r4 := cell_of_block hS7.at_ 0
          have f4 := thawed hS7.at_ 0
          have r4' : w7.cell? ⟨w.heap.size + 1, 0, none⟩ = some (.int .i64 (i : Int)) := r4
          have HS8 := Lib.hid (hS7.set (i + s))
          clear hS7 hS3 hg7 hr7 hr3 pb r4 hg3
          go_wp2
          go_step3
          have hfs : hcells (fs ++ [(hd, i)]) = hcells fs ++ (hv hd).toList := hcells_snoc _ _
          have hps : pcells (fs ++ [(hd, i)]) = pcells fs ++ [.int .i64 (i : Int)] := pcells_snoc _ _
          have hln : (fs ++ [(hd, i)]).length = fs.length + 1 := by simp
          refine ⟨rfl, ⟨i + s, k', fs ++ [(hd, i)], _, _, _, _, _, _, _, _, _, _, _, _, _, _, _, _, _, _, _, _, _, _, _, _, _, rfl, (by rw [hfs, hps, hln]; exact HS8.out), (by rw [HSC.out, HCO.out]; simp), by omega, by omega, by rw [hln]; have := HFK.out; have := HK'.out; omega⟩, ?_⟩
          have hc9 := cell_of_block HS8.out.at_ 0
          simp only [Int.natCast_add] at hc9
          rw [hc9, HAT.out]
          simp [intOf]
          omega
        refine consL 6 rfl ?_ (fun K hK => ?_)
        rotate_left
        · skip
          go_simp
          refine hK.out _ _ ?_ (fun hHeld => ?_)
          · exact same2_alloc (by assumption) hDl hEl _
          clear hK K
          (try simp only [Act.put, List.setIfInBounds_toArray, List.set_cons_zero, List.set_cons_succ])
          refine stepL 3 rfl (by kernel_rfl) (fun K hK => ?_)
          (rw [if_pos (by rfl)]; (obtain ⟨v3, w3, hr3, hS3, ⟨a3, c3, rfl⟩, hg3⟩ := SA12.appH w2.heap.size hd hk12 (by omega); refine Lib.wp_append_run _ (.tmp 18) (.tmp 20) 54 54 (by rfl) _ _ (by rfl) (by rfl) _ w3 hr3 ?_; have pb := (hg3.block (w2.heap.size + 1) (by simp) (fun e => by have := hlt2 _ e.symm; omega)).trans gp12))
          refine hK.out _ _ ?_ (fun hHeld => ?_)
          · exact same2_grown (by assumption) hg3 hDl hEl (fun e => by have := hne1 _ e; omega) (fun e => by have := hne1 _ e; omega)
          clear hK K
          (try simp only [Act.put, List.setIfInBounds_toArray, List.set_cons_zero, List.set_cons_succ])
          refine stepL 7 rfl (by kernel_rfl) (fun K hK => ?_)
          (rw [if_pos (by rfl)]; (obtain ⟨v7, w7, hr7, hS7, ⟨a7, c7, rfl⟩, hg7⟩ := hS3.appP (w2.heap.size + 1) i (cell_of_block pb 0) (by omega); refine Lib.wp_append_run _ (.tmp 22) (.tmp 24) 74 74 (by rfl) _ _ (by rfl) (by rfl) _ w7 hr7 ?_))
          refine hK.out _ _ ?_ (fun hHeld => ?_)
          · exact same2_grown (by assumption) hg7 hDl hEl (fun e => by have := hne3 _ e; omega) (fun e => by have := hne3 _ e; omega)
          clear hK K
          (try simp only [Act.put, List.setIfInBounds_toArray, List.set_cons_zero, List.set_cons_succ])
          refine takeL 8 (v := ?_) rfl (by kernel_rfl) (by kernel_rfl) (by kernel_rfl) (fun _ _ _ h => h) (Or.inl ⟨by rfl, ?_⟩) (by assumption) ?_
          rotate_left
          · (intro w hSw; go_simp; try with_reducible rfl)
          (try simp only [Act.put, List.setIfInBounds_toArray, List.set_cons_zero, List.set_cons_succ])
          refine takeL 9 (v := ?_) rfl (by kernel_rfl) (by kernel_rfl) (by kernel_rfl) (fun _ _ _ h => h) (Or.inl ⟨by rfl, ?_⟩) (by assumption) ?_
          rotate_left
          · (intro w hSw; go_simp; try with_reducible rfl)
          (try simp only [Act.put, List.setIfInBounds_toArray, List.set_cons_zero, List.set_cons_succ])
          refine wpAnyH_done (by kernel_rfl) ?_ _
          refine NoPanic.normal ?_
          have r4 := cell_of_block hS7.at_ 0
          have f4 := thawed hS7.at_ 0
          have r4' : w7.cell? ⟨w.heap.size + 1, 0, none⟩ = some (.int .i64 (i : Int)) := r4
          have HS8 := Lib.hid (hS7.set (i + s))
          clear hS7 hS3 hg7 hr7 hr3 pb r4 hg3
          go_wp2
          go_step3
          have hfs : hcells (fs ++ [(hd, i)]) = hcells fs ++ (hv hd).toList := hcells_snoc _ _
          have hps : pcells (fs ++ [(hd, i)]) = pcells fs ++ [.int .i64 (i : Int)] := pcells_snoc _ _
          have hln : (fs ++ [(hd, i)]).length = fs.length + 1 := by simp
          refine ⟨rfl, ⟨i + s, k', fs ++ [(hd, i)], _, _, _, _, _, _, _, _, _, _, _, _, _, _, _, _, _, _, _, _, _, _, _, _, _, rfl, (by rw [hfs, hps, hln]; exact HS8.out), (by rw [HSC.out, HCO.out]; simp), by omega, by omega, by rw [hln]; have := HFK.out; have := HK'.out; omega⟩, ?_⟩
          have hc9 := cell_of_block HS8.out.at_ 0
          simp only [Int.natCast_add] at hc9
          rw [hc9, HAT.out]
          simp [intOf]
          omega
        exact AllReadyH.nil
      refine consL 6 rfl ?_ (fun K hK => ?_)
      rotate_left
      · skip
        go_simp
        refine hK.out _ _ ?_ (fun hHeld => ?_)
        · exact same2_alloc (by assumption) hDl hEl _
        clear hK K
        (try simp only [Act.put, List.setIfInBounds_toArray, List.set_cons_zero, List.set_cons_succ])
        refine stepL 2 rfl (by kernel_rfl) (fun K hK => ?_)
        go_simp
        refine hK.out _ _ ?_ (fun hHeld => ?_)
        · exact same2_alloc (by assumption) hDl hEl _
        clear hK K
        (try simp only [Act.put, List.setIfInBounds_toArray, List.set_cons_zero, List.set_cons_succ])
        refine stepL 3 rfl (by kernel_rfl) (fun K hK => ?_)
        (rw [if_pos (by rfl)]; (obtain ⟨v3, w3, hr3, hS3, ⟨a3, c3, rfl⟩, hg3⟩ := SA21.appH (w2.heap.size + 1) hd hk21 (by omega); refine Lib.wp_append_run _ (.tmp 18) (.tmp 20) 54 54 (by rfl) _ _ (by rfl) (by rfl) _ w3 hr3 ?_; have pb := (hg3.block w2.heap.size (by simp; omega) (fun e => by have := hlt2 _ e.symm; omega)).trans gp21))
        refine hK.out _ _ ?_ (fun hHeld => ?_)
        · exact same2_grown (by assumption) hg3 hDl hEl (fun e => by have := hne1 _ e; omega) (fun e => by have := hne1 _ e; omega)
        clear hK K
        (try simp only [Act.put, List.setIfInBounds_toArray, List.set_cons_zero, List.set_cons_succ])
        refine stepL 7 rfl (by kernel_rfl) (fun K hK => ?_)
        (rw [if_pos (by rfl)]; (obtain ⟨v7, w7, hr7, hS7, ⟨a7, c7, rfl⟩, hg7⟩ := hS3.appP w2.heap.size i (cell_of_block pb 0) (by omega); refine Lib.wp_append_run _ (.tmp 22) (.tmp 24) 74 74 (by rfl) _ _ (by rfl) (by rfl) _ w7 hr7 ?_))
        refine hK.out _ _ ?_ (fun hHeld => ?_)
        · exact same2_grown (by assumption) hg7 hDl hEl (fun e => by have := hne3 _ e; omega) (fun e => by have := hne3 _ e; omega)
        clear hK K
        (try simp only [Act.put, List.setIfInBounds_toArray, List.set_cons_zero, List.set_cons_succ])
        refine takeL 8 (v := ?_) rfl (by kernel_rfl) (by kernel_rfl) (by kernel_rfl) (fun _ _ _ h => h) (Or.inl ⟨by rfl, ?_⟩) (by assumption) ?_
        rotate_left
        · (intro w hSw; go_simp; try with_reducible rfl)
        (try simp only [Act.put, List.setIfInBounds_toArray, List.set_cons_zero, List.set_cons_succ])
        refine takeL 9 (v := ?_) rfl (by kernel_rfl) (by kernel_rfl) (by kernel_rfl) (fun _ _ _ h => h) (Or.inl ⟨by rfl, ?_⟩) (by assumption) ?_
        rotate_left
        · (intro w hSw; go_simp; try with_reducible rfl)
        (try simp only [Act.put, List.setIfInBounds_toArray, List.set_cons_zero, List.set_cons_succ])
        refine wpAnyH_done (by kernel_rfl) ?_ _
        refine NoPanic.normal ?_
        have r4 := cell_of_block hS7.at_ 0
        have f4 := thawed hS7.at_ 0
        have r4' : w7.cell? ⟨w.heap.size + 1, 0, none⟩ = some (.int .i64 (i : Int)) := r4
        have HS8 := Lib.hid (hS7.set (i + s))
        clear hS7 hS3 hg7 hr7 hr3 pb r4 hg3
        go_wp2
        go_step3
        have hfs : hcells (fs ++ [(hd, i)]) = hcells fs ++ (hv hd).toList := hcells_snoc _ _
        have hps : pcells (fs ++ [(hd, i)]) = pcells fs ++ [.int .i64 (i : Int)] := pcells_snoc _ _
        have hln : (fs ++ [(hd, i)]).length = fs.length + 1 := by simp
        refine ⟨rfl, ⟨i + s, k', fs ++ [(hd, i)], _, _, _, _, _, _, _, _, _, _, _, _, _, _, _, _, _, _, _, _, _, _, _, _, _, rfl, (by rw [hfs, hps, hln]; exact HS8.out), (by rw [HSC.out, HCO.out]; simp), by omega, by omega, by rw [hln]; have := HFK.out; have := HK'.out; omega⟩, ?_⟩
        have hc9 := cell_of_block HS8.out.at_ 0
        simp only [Int.natCast_add] at hc9
        rw [hc9, HAT.out]
        simp [intOf]
        omega
      exact AllReadyH.nil
end Go.Proofs.Ytdiokmaomglefaa
