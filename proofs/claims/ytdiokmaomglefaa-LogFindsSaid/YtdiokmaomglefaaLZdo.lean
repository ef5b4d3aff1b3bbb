/- Devices: a command of a zone. -/
import Derived.Test.YtdiokmaomglefaaLOwn
namespace Go.Proofs.Ytdiokmaomglefaa
open Go Go.RowKit

/-- One zone is laid anew, cell by cell. -/
theorem OwnAt.zone {base : Nat} {X : List Nat} {D Z cap : Nat} {vs : List Value} {r0 r1 f0 f1 : Value} {d : Dv} {w : World} (h : OwnAt base X D Z cap vs r0 r1 f0 f1 d w) (hX : Z ∈ X) (j : Nat) (hj : j < d.zs.length) (z : Zn) (v : Value) (hv : BtO X w v z.data) :
    OwnAt base X D Z cap (vs.set j v) r0 r1 f0 f1 (setZ d j z) (((w.setCell ⟨Z, j * 3, none⟩ (.int .i64 z.st)).setCell ⟨Z, j * 3 + 1, none⟩ v).setCell ⟨Z, j * 3 + 2, none⟩ (.int .i64 z.lasts)) := by
  have s1 := (h.row.stored (j * 3) (.int .i64 z.st)).1
  have s2 := (s1.stored (j * 3 + 1) v).1
  have s3 := (s2.stored (j * 3 + 2) (.int .i64 z.lasts)).1
  rw [← zcs_set d.zs vs h.len j z v hj] at s3
  have ho : ∀ k, k ≠ Z → (((w.setCell ⟨Z, j * 3, none⟩ (.int .i64 z.st)).setCell ⟨Z, j * 3 + 1, none⟩ v).setCell ⟨Z, j * 3 + 2, none⟩ (.int .i64 z.lasts)).heap[k]? = w.heap[k]? := fun k hk =>
    (heap_setCell_other _ ⟨Z, j * 3 + 2, none⟩ k _ (by simpa using hk)).trans ((heap_setCell_other _ ⟨Z, j * 3 + 1, none⟩ k _ (by simpa using hk)).trans (heap_setCell_other _ ⟨Z, j * 3, none⟩ k _ (by simpa using hk)))
  refine h.onZ hX (vs.set j v) (setZ d j z) (by simp [dcs, setZ]) ⟨rfl, rfl, rfl, rfl⟩ (by simp [setZ]) (by simp [setZ, h.len]) s3 (by simp) ho ?_
  intro k y u hk hu
  by_cases e : j = k
  · subst e
    simp only [setZ] at hk
    rw [List.getElem?_set_self hj] at hk
    cases hk
    rw [List.getElem?_set_self (by rw [h.len]; exact hj)] at hu
    cases hu
    exact hv
  · simp only [setZ] at hk
    rw [List.getElem?_set_ne e] at hk hu
    exact h.dat k y u hk hu
theorem BtO.less {X Y : List Nat} {w : World} {v : Value} {l : List UInt8} (h : BtO X w v l) (hs : ∀ y ∈ Y, y ∈ X) : BtO Y w v l := ⟨h.1, fun hne b o n c hv hx => h.2 hne b o n c hv (hs b hx)⟩
theorem laid_setRow {w : World} {g : Nat} {cs old : Array Value} {t : TypeId} (h : w.heap[g]? = some (.cells old t (0, 0))) : Laid w g cs t (w.setRow g cs) := ⟨setRow_heap _ _ _ _ _ _ h, below_setRow (Below.refl _ _) (Nat.le_refl _) _, by simp [World.setRow], fun k hk => setRow_other _ _ _ _ hk⟩
theorem away_three {Z a b c : Nat} {u v x : Value} (X : List Nat) (w : World) (hX : Z ∈ X) : Away X w (((w.setCell ⟨Z, a, none⟩ u).setCell ⟨Z, b, none⟩ v).setCell ⟨Z, c, none⟩ x) :=
  (Away.set w u hX).trans ((Away.set _ v hX).trans (Away.set _ x hX))
theorem below_three {B Z a b c : Nat} {u v x : Value} (w : World) (hZ : B ≤ Z) : Below B w (((w.setCell ⟨Z, a, none⟩ u).setCell ⟨Z, b, none⟩ v).setCell ⟨Z, c, none⟩ x) :=
  (((Below.refl B w).setCell (p := ⟨Z, a, none⟩) hZ _).setCell (p := ⟨Z, b, none⟩) hZ _).setCell (p := ⟨Z, c, none⟩) hZ _
theorem alloc_drew {w w0 : World} {o : Obj} (h : (w.alloc o).drew = w0) : w0.heap[w.heap.size]? = some o ∧ Below w.heap.size w w0 ∧ w0.heap.size = w.heap.size + 1 := by
  subst h
  exact ⟨heap_alloc_new _ _, ((Below.refl _ w).alloc (Nat.le_refl _) _).drew, by simp⟩
/-- What a command that was tried leaves of the device, and its error. -/
def DoPost (base : Nat) (X : List Nat) (D Z cap : Nat) (d' : Dv) (err : Int) (w : World) (e : Ending) (w' : World) : Prop :=
  e = .returned (.int .i64 err) ∧ Below base w w' ∧ Away [D, Z] w w' ∧ ∃ vs q0 q1 g0 g1, OwnAt base X D Z cap vs q0 q1 g0 g1 d' w'
set_option linter.unusedSimpArgs false in
set_option maxRecDepth 100000 in
set_option maxHeartbeats 4000000 in
theorem zdo_reset (base : Nat) (X : List Nat) (D Z cap : Nat) (vs : List Value) (r0 r1 f0 f1 : Value) (d : Dv) (w : World) (OA : OwnAt base X D Z cap vs r0 r1 f0 f1 d w) (hXZ : Z ∈ X) (hXs : ∀ x ∈ X, x < w.heap.size) (hbD : base ≤ D) (j : Nat) (z : Zn) (hz : d.zs[j]? = some z) (ab : Option Addr) (nb cb : Nat) (hst : z.st = 0 ∨ z.st = 1 ∨ z.st = 2) :
    Calls Try.prog 49 #[.agg #[.int .i64 2, .int .i64 j, .slice ab nb cb], .pointer (some ⟨D, 0, none⟩)] w (DoPost base X D Z cap (setZ d j ⟨0, [], 0⟩) 0 w) := by
  have hj : j < d.zs.length := (List.getElem?_eq_some_iff.1 hz).1
  have hjv : j < vs.length := by rw [OA.len]; exact hj
  have hbt := OA.dat j z vs[j] hz (List.getElem?_eq_getElem hjv)
  obtain ⟨q0, q1, q2⟩ := zcs_at d.zs vs OA.len j z vs[j] hz (List.getElem?_eq_getElem hjv)
  obtain ⟨a2, c2, hvj⟩ := hbt.open
  rw [hvj] at hbt q1
  have hbZ : base ≤ Z := (OA.row.lt Z rfl).1
  have HQ0 := Lib.hid ((OA.row.cellAt (j * 3) (by omega)).trans q0)
  have HQ1 := Lib.hid ((OA.row.cellAt (j * 3 + 1) (by omega)).trans q1)
  have HQ2 := Lib.hid ((OA.row.cellAt (j * 3 + 2) (by omega)).trans q2)
  have HFZ := Lib.hid (OA.row.frozenAt)
  have HOA := Lib.hid OA
  have HBT := Lib.hid hbt
  have HZ := Lib.hid hz
  have HXS := Lib.hid hXs
  have lD := block_lt OA.blk
  have lZ := (OA.row.lt Z rfl).2
  have cb1 := OA.blk
  have i1 : (0 : Int) ≤ (j : Int) := by omega
  have i2 : (j : Int) < (d.zs.length : Int) := by omega
  have i3 : decide ((j : Int) < 0) = false := decide_eq_false (by omega)
  have i4 : decide ((d.zs.length : Int) ≤ (j : Int)) = false := decide_eq_false (by omega)
  have i5 : decide (d.zs.length ≤ j) = false := decide_eq_false (by omega)
  clear OA hbt hz hvj q0 q1 q2 hXs hjv hj
  go_enter Try.func49, Try.ntmps49
  go_wp2_with fail
  refine code_world (fun wa e0 => ?_)
  obtain ⟨gB, hba, _⟩ := one_alloc e0
  clear e0
  obtain ⟨B, hB⟩ : ∃ B, w.heap.size = B := ⟨_, rfl⟩
  rw [hB] at gB lD lZ ⊢
  have b0 : wa.cell? ⟨B, 0, none⟩ = some (.int .i64 2) := (cell_of_block gB 0).trans rfl
  have b1 : wa.cell? ⟨B, 1, none⟩ = some (.int .i64 j) := (cell_of_block gB 1).trans rfl
  have d1 : wa.cell? ⟨D, 1, none⟩ = some (.slice (some ⟨Z, 0, none⟩) d.zs.length cap) := (cell_of_block (blk_on cb1 hba) 1).trans rfl
  go_quiet (fail)
  go_wp2_with fail
  refine code_world (fun wc ec => ?_)
  have hbc : Below wa.heap.size wa wc := by rw [ec]; exact below_drewN (Below.refl _ _) _
  clear ec
  have hb2 : Below w.heap.size w wc := hba.trans (hbc.mono hba.size)
  have gB2 := blk_on gB hbc
  have lB2 := block_lt gB2
  have hs2 := hb2.size
  clear b0 b1 d1 hba hbc gB i3 i4 i5
  have d1 : wc.cell? ⟨D, 1, none⟩ = some (.slice (some ⟨Z, 0, none⟩) d.zs.length cap) := (cell_of_block (blk_on cb1 hb2) 1).trans rfl
  have b1 : wc.cell? ⟨B, 1, none⟩ = some (.int .i64 j) := (cell_of_block gB2 1).trans rfl
  have lZ' : Z < w.heap.size := by rw [hB]; exact lZ
  have cz0 : wc.cell? ⟨Z, j * 3, none⟩ = some (.int .i64 z.st) := (hb2.cell (p := ⟨Z, j * 3, none⟩) lZ').trans HQ0.out
  have cz1 : wc.cell? ⟨Z, j * 3 + 1, none⟩ = some (.slice a2 z.data.length c2) := (hb2.cell (p := ⟨Z, j * 3 + 1, none⟩) lZ').trans HQ1.out
  have cz2 : wc.cell? ⟨Z, j * 3 + 2, none⟩ = some (.int .i64 z.lasts) := (hb2.cell (p := ⟨Z, j * 3 + 2, none⟩) lZ').trans HQ2.out
  have lZ2 : Z < wc.heap.size := by omega
  have lD2 : D < wc.heap.size := by omega
  have gd1 : ∀ w', Below wc.heap.size wc w' → w'.cell? ⟨D, 1, none⟩ = some (.slice (some ⟨Z, 0, none⟩) d.zs.length cap) := fun w' h => (h.cell (p := ⟨D, 1, none⟩) lD2).trans d1
  have gb1 : ∀ w', Below wc.heap.size wc w' → w'.cell? ⟨B, 1, none⟩ = some (.int .i64 j) := fun w' h => (h.cell (p := ⟨B, 1, none⟩) lB2).trans b1
  have gz0 : ∀ w', Below wc.heap.size wc w' → w'.cell? ⟨Z, j * 3, none⟩ = some (.int .i64 z.st) := fun w' h => (h.cell (p := ⟨Z, j * 3, none⟩) lZ2).trans cz0
  have gz1 : ∀ w', Below wc.heap.size wc w' → w'.cell? ⟨Z, j * 3 + 1, none⟩ = some (.slice a2 z.data.length c2) := fun w' h => (h.cell (p := ⟨Z, j * 3 + 1, none⟩) lZ2).trans cz1
  have gz2 : ∀ w', Below wc.heap.size wc w' → w'.cell? ⟨Z, j * 3 + 2, none⟩ = some (.int .i64 z.lasts) := fun w' h => (h.cell (p := ⟨Z, j * 3 + 2, none⟩) lZ2).trans cz2
  clear d1 b1 cz0 cz1 cz2
  refine wp_region_noPanic ?_
  refine wp_region_till (T := Below wc.heap.size wc) 9 (by kernel_rfl) ?_ (fun hTill => ?_)
  · exact below_self_drew wc
  refine takeM 0 (v := ?_) rfl (by kernel_rfl) (by kernel_rfl) (by kernel_rfl) (by kernel_rfl) (fun _ _ _ h => h) (Or.inl ⟨by rfl, ?_⟩) (by assumption) (fun hTill => ?_)
  rotate_left
  · (intro w hSw; go_simp; try with_reducible rfl)
  (try simp only [Act.put, List.setIfInBounds_toArray, List.set_cons_zero, List.set_cons_succ])
  refine takeM 1 (v := ?_) rfl (by kernel_rfl) (by kernel_rfl) (by kernel_rfl) (by kernel_rfl) (fun _ _ _ h => h) (Or.inl ⟨by rfl, ?_⟩) (by assumption) (fun hTill => ?_)
  rotate_left
  · (intro w hSw; go_simp; try with_reducible rfl)
  (try simp only [Act.put, List.setIfInBounds_toArray, List.set_cons_zero, List.set_cons_succ])
  refine takeM 2 (v := ?_) rfl (by kernel_rfl) (by kernel_rfl) (by kernel_rfl) (by kernel_rfl) (fun _ _ _ h => h) (Or.inl ⟨by rfl, ?_⟩) (by assumption) (fun hTill => ?_)
  rotate_left
  · (intro w hSw; go_simp; try with_reducible rfl)
  (try simp only [Act.put, List.setIfInBounds_toArray, List.set_cons_zero, List.set_cons_succ])
  refine takeT 3 (v := ?_) rfl (by kernel_rfl) (by kernel_rfl) (by kernel_rfl) (by kernel_rfl) (by kernel_rfl) (by kernel_rfl) (fun _ _ _ h => h) (Or.inl ⟨by rfl, ?_⟩) (by assumption) (fun hTill => ?_)
  rotate_left
  · (intro w hSw; go_simp; try with_reducible rfl)
  (try simp only [Act.put, List.setIfInBounds_toArray, List.set_cons_zero, List.set_cons_succ])
  refine takeM 4 (v := ?_) rfl (by kernel_rfl) (by kernel_rfl) (by kernel_rfl) (by kernel_rfl) (fun _ _ _ h => h) (Or.inl ⟨by rfl, ?_⟩) (by assumption) (fun hTill => ?_)
  rotate_left
  · (intro w hSw; go_simp; try with_reducible rfl)
  (try simp only [Act.put, List.setIfInBounds_toArray, List.set_cons_zero, List.set_cons_succ])
  refine takeT 5 (v := ?_) rfl (by kernel_rfl) (by kernel_rfl) (by kernel_rfl) (by kernel_rfl) (by kernel_rfl) (by kernel_rfl) (fun _ _ _ h => h) (Or.inl ⟨by rfl, ?_⟩) (by assumption) (fun hTill => ?_)
  rotate_left
  · (intro w hSw; go_simp; try with_reducible rfl)
  (try simp only [Act.put, List.setIfInBounds_toArray, List.set_cons_zero, List.set_cons_succ])
  refine takeM 6 (v := ?_) rfl (by kernel_rfl) (by kernel_rfl) (by kernel_rfl) (by kernel_rfl) (fun _ _ _ h => h) (Or.inl ⟨by rfl, ?_⟩) (by assumption) (fun hTill => ?_)
  rotate_left
  · (intro w hSw; go_simp; try with_reducible rfl)
  (try simp only [Act.put, List.setIfInBounds_toArray, List.set_cons_zero, List.set_cons_succ])
  refine takeT 7 (v := ?_) rfl (by kernel_rfl) (by kernel_rfl) (by kernel_rfl) (by kernel_rfl) (by kernel_rfl) (by kernel_rfl) (fun _ _ _ h => h) (Or.inl ⟨by rfl, ?_⟩) (by assumption) (fun hTill => ?_)
  rotate_left
  · (intro w hSw; go_simp; try with_reducible rfl)
  (try simp only [Act.put, List.setIfInBounds_toArray, List.set_cons_zero, List.set_cons_succ])
  refine stepM 8 rfl (by kernel_rfl) (fun K hK => ?_)
  go_simp
  refine hK.out _ _ ?_ (fun hTill => ?_)
  · exact fun _ => ((Below.refl _ wc).drew).alloc (Nat.le_refl _) _
  clear hK K
  (try simp only [Act.put, List.setIfInBounds_toArray, List.set_cons_zero, List.set_cons_succ])
  refine stepM 9 rfl (by kernel_rfl) (fun K hK => ?_)
  go_simp
  refine hK.out _ _ ?_ (fun hTill => ?_)
  · exact till_over (by kernel_rfl)
  clear hK K
  (try simp only [Act.put, List.setIfInBounds_toArray, List.set_cons_zero, List.set_cons_succ])
  refine doneM (by kernel_rfl) ?_ _
  refine NoPanic.normal ?_
  clear gd1 gb1 gz0 gz1 gz2
  generalize e0 : (World.alloc wc _).drew = wd
  obtain ⟨gA, hbd, hsd⟩ := alloc_drew e0
  clear e0
  have hs3 : wd.heap.size = wc.heap.size + 1 := hsd
  have hb3 : Below w.heap.size w wd := hb2.trans (hbd.mono hs2)
  obtain ⟨A, hA⟩ : ∃ A, wc.heap.size = A := ⟨_, rfl⟩
  have gB3 := blk_on gB2 hbd
  have gA := (show wd.heap[A]? = _ from hA ▸ gA)
  have b0 : wd.cell? ⟨B, 0, none⟩ = some (.int .i64 2) := (cell_of_block gB3 0).trans rfl
  have a0 : wd.cell? ⟨A, 0, none⟩ = some (.int .i64 z.st) := (cell_of_block gA 0).trans rfl
  have a1 : wd.cell? ⟨A, 1, none⟩ = some (.slice a2 z.data.length c2) := (cell_of_block gA 1).trans rfl
  have a2' : wd.cell? ⟨A, 2, none⟩ = some (.int .i64 z.lasts) := (cell_of_block gA 2).trans rfl
  rw [hA] at lB2 lZ2 lD2 hs3 hs2 ⊢
  replace hs3 : A + 1 ≤ wd.heap.size := by omega
  clear gB2 hbd hsd
  go_wp2_with fail
  refine (zreset_any z.st z.lasts hst a2 z.data.length c2 _).mono ?_
  rintro e wf ⟨rfl, hbf⟩
  have hiz : (Try.prog.info? 52).map (·.size) = some 3 := by kernel_rfl
  have gA2 := blk_on gA hbf
  have gB4 := blk_on gB3 hbf
  have hb5 : Below w.heap.size w wf := hb3.trans (hbf.mono hb3.size)
  have hszf := hbf.size
  have hone : (#[.int .i64 0, .slice none 0 0, .int .i64 0] : Array Value).all (·.oneCell') = true := by simp; exact ⟨rfl, rfl, rfl⟩
  have HBF := Lib.hid hbf
  clear gA hbf hb3 gB3 b0 a0 a1 a2'
  unfold zv
  go_wp2_with (refine wpList_lay (by rfl) 52 (.tmp 5) (.tmp 45) rfl A #[.int .i64 0, .slice none 0 0, .int .i64 0] (by rfl) (by rfl) 52 _ gA2 3 hiz rfl rfl hone ?_; intro wg hL)
  refine code_world (fun wk ek => ?_)
  obtain rfl : wk = wg := ek
  have hb6 : Below w.heap.size w wk := hb5.trans (hL.bel.mono (by omega))
  have gA3 := hL.blk
  have gB5 := (hL.rest B (by omega)).trans gB4
  have hsk := hL.size
  have lZ' : Z < w.heap.size := by rw [hB]; exact lZ
  have lD' : D < w.heap.size := by rw [hB]; exact lD
  have lBk : B < wk.heap.size := by omega
  have lAk : A < wk.heap.size := by omega
  have lZk : Z < wk.heap.size := by omega
  have lDk : D < wk.heap.size := by omega
  have d1 : wk.cell? ⟨D, 1, none⟩ = some (.slice (some ⟨Z, 0, none⟩) d.zs.length cap) := (cell_of_block (blk_on cb1 hb6) 1).trans rfl
  have b1 : wk.cell? ⟨B, 1, none⟩ = some (.int .i64 j) := (cell_of_block gB5 1).trans rfl
  have x0 : wk.cell? ⟨A, 0, none⟩ = some (.int .i64 0) := (cell_of_block gA3 0).trans rfl
  have x1 : wk.cell? ⟨A, 1, none⟩ = some (.slice none 0 0) := (cell_of_block gA3 1).trans rfl
  have x2 : wk.cell? ⟨A, 2, none⟩ = some (.int .i64 0) := (cell_of_block gA3 2).trans rfl
  have gd1 : ∀ w', Below wk.heap.size wk w' → w'.cell? ⟨D, 1, none⟩ = some (.slice (some ⟨Z, 0, none⟩) d.zs.length cap) := fun w' h => (h.cell (p := ⟨D, 1, none⟩) lDk).trans d1
  have gb1 : ∀ w', Below wk.heap.size wk w' → w'.cell? ⟨B, 1, none⟩ = some (.int .i64 j) := fun w' h => (h.cell (p := ⟨B, 1, none⟩) lBk).trans b1
  have gx0 : ∀ w', Below wk.heap.size wk w' → w'.cell? ⟨A, 0, none⟩ = some (.int .i64 0) := fun w' h => (h.cell (p := ⟨A, 0, none⟩) lAk).trans x0
  have gx1 : ∀ w', Below wk.heap.size wk w' → w'.cell? ⟨A, 1, none⟩ = some (.slice none 0 0) := fun w' h => (h.cell (p := ⟨A, 1, none⟩) lAk).trans x1
  have gx2 : ∀ w', Below wk.heap.size wk w' → w'.cell? ⟨A, 2, none⟩ = some (.int .i64 0) := fun w' h => (h.cell (p := ⟨A, 2, none⟩) lAk).trans x2
  have cz0 : wk.cell? ⟨Z, j * 3, none⟩ = some (.int .i64 z.st) := (hb6.cell (p := ⟨Z, j * 3, none⟩) lZ').trans HQ0.out
  have cz1 : wk.cell? ⟨Z, j * 3 + 1, none⟩ = some (.slice a2 z.data.length c2) := (hb6.cell (p := ⟨Z, j * 3 + 1, none⟩) lZ').trans HQ1.out
  have cz2 : wk.cell? ⟨Z, j * 3 + 2, none⟩ = some (.int .i64 z.lasts) := (hb6.cell (p := ⟨Z, j * 3 + 2, none⟩) lZ').trans HQ2.out
  have fz0 : wk.frozen? ⟨Z, j * 3, none⟩ = false := (hb6.frozen (p := ⟨Z, j * 3, none⟩) lZ').trans (HFZ.out (j * 3))
  have fz1 : wk.frozen? ⟨Z, j * 3 + 1, none⟩ = false := (hb6.frozen (p := ⟨Z, j * 3 + 1, none⟩) lZ').trans (HFZ.out (j * 3 + 1))
  have fz2 : wk.frozen? ⟨Z, j * 3 + 2, none⟩ = false := (hb6.frozen (p := ⟨Z, j * 3 + 2, none⟩) lZ').trans (HFZ.out (j * 3 + 2))
  clear d1 b1 x0 x1 x2 gA2 gB4 gB5 hone hL hsk hs3
  refine wp_region_noPanic ?_
  refine wp_region_till (T := Below wk.heap.size wk) 8 (by kernel_rfl) ?_ (fun hTill => ?_)
  · exact below_self_drew wk
  refine takeM 0 (v := ?_) rfl (by kernel_rfl) (by kernel_rfl) (by kernel_rfl) (by kernel_rfl) (fun _ _ _ h => h) (Or.inl ⟨by rfl, ?_⟩) (by assumption) (fun hTill => ?_)
  rotate_left
  · (intro w hSw; go_simp; try with_reducible rfl)
  (try simp only [Act.put, List.setIfInBounds_toArray, List.set_cons_zero, List.set_cons_succ])
  refine takeM 1 (v := ?_) rfl (by kernel_rfl) (by kernel_rfl) (by kernel_rfl) (by kernel_rfl) (fun _ _ _ h => h) (Or.inl ⟨by rfl, ?_⟩) (by assumption) (fun hTill => ?_)
  rotate_left
  · (intro w hSw; go_simp; try with_reducible rfl)
  (try simp only [Act.put, List.setIfInBounds_toArray, List.set_cons_zero, List.set_cons_succ])
  refine takeM 2 (v := ?_) rfl (by kernel_rfl) (by kernel_rfl) (by kernel_rfl) (by kernel_rfl) (fun _ _ _ h => h) (Or.inl ⟨by rfl, ?_⟩) (by assumption) (fun hTill => ?_)
  rotate_left
  · (intro w hSw; go_simp; try with_reducible rfl)
  (try simp only [Act.put, List.setIfInBounds_toArray, List.set_cons_zero, List.set_cons_succ])
  refine takeT 3 (v := ?_) rfl (by kernel_rfl) (by kernel_rfl) (by kernel_rfl) (by kernel_rfl) (by kernel_rfl) (by kernel_rfl) (fun _ _ _ h => h) (Or.inl ⟨by rfl, ?_⟩) (by assumption) (fun hTill => ?_)
  rotate_left
  · (intro w hSw; go_simp; try with_reducible rfl)
  (try simp only [Act.put, List.setIfInBounds_toArray, List.set_cons_zero, List.set_cons_succ])
  refine takeM 4 (v := ?_) rfl (by kernel_rfl) (by kernel_rfl) (by kernel_rfl) (by kernel_rfl) (fun _ _ _ h => h) (Or.inl ⟨by rfl, ?_⟩) (by assumption) (fun hTill => ?_)
  rotate_left
  · (intro w hSw; go_simp; try with_reducible rfl)
  (try simp only [Act.put, List.setIfInBounds_toArray, List.set_cons_zero, List.set_cons_succ])
  refine takeT 5 (v := ?_) rfl (by kernel_rfl) (by kernel_rfl) (by kernel_rfl) (by kernel_rfl) (by kernel_rfl) (by kernel_rfl) (fun _ _ _ h => h) (Or.inl ⟨by rfl, ?_⟩) (by assumption) (fun hTill => ?_)
  rotate_left
  · (intro w hSw; go_simp; try with_reducible rfl)
  (try simp only [Act.put, List.setIfInBounds_toArray, List.set_cons_zero, List.set_cons_succ])
  refine takeT 6 (v := ?_) rfl (by kernel_rfl) (by kernel_rfl) (by kernel_rfl) (by kernel_rfl) (by kernel_rfl) (by kernel_rfl) (fun _ _ _ h => h) (Or.inl ⟨by rfl, ?_⟩) (by assumption) (fun hTill => ?_)
  rotate_left
  · (intro w hSw; go_simp; try with_reducible rfl)
  (try simp only [Act.put, List.setIfInBounds_toArray, List.set_cons_zero, List.set_cons_succ])
  refine takeM 7 (v := ?_) rfl (by kernel_rfl) (by kernel_rfl) (by kernel_rfl) (by kernel_rfl) (fun _ _ _ h => h) (Or.inl ⟨by rfl, ?_⟩) (by assumption) (fun hTill => ?_)
  rotate_left
  · (intro w hSw; go_simp; try with_reducible rfl)
  (try simp only [Act.put, List.setIfInBounds_toArray, List.set_cons_zero, List.set_cons_succ])
  refine stepM 8 rfl (by kernel_rfl) (fun K hK => ?_)
  go_simp
  refine hK.out _ _ ?_ (fun hTill => ?_)
  · exact till_over (by kernel_rfl)
  clear hK K
  (try simp only [Act.put, List.setIfInBounds_toArray, List.set_cons_zero, List.set_cons_succ])
  refine doneM (by kernel_rfl) ?_ _
  refine NoPanic.normal ?_
  clear gd1 gb1 gx0 gx1 gx2 cz0 cz1 cz2 fz0 fz1 fz2
  go_wp2
  go_ret
  have hb7 : Below w.heap.size w wk.drew := hb6.drew
  have O7 := (HOA.out.below hb7).zone hXZ j (by omega) ⟨0, [], 0⟩ (.slice none 0 0) (BtO.nil _ _)
  have hzz : base ≤ Z := hbZ
  exact ⟨rfl, (hb7.mono (by have := block_lt HOA.out.blk; omega)).trans (below_three _ hzz), (Away.of_below hb7).trans (away_three _ _ (by simp)), _, _, _, _, _, O7⟩
set_option linter.unusedSimpArgs false in
set_option maxRecDepth 100000 in
set_option maxHeartbeats 4000000 in
theorem zdo_finish (base : Nat) (X : List Nat) (D Z cap : Nat) (vs : List Value) (r0 r1 f0 f1 : Value) (d : Dv) (w : World) (OA : OwnAt base X D Z cap vs r0 r1 f0 f1 d w) (hXZ : Z ∈ X) (hXs : ∀ x ∈ X, x < w.heap.size) (hbD : base ≤ D) (j : Nat) (z : Zn) (hz : d.zs[j]? = some z) (ab : Option Addr) (nb cb : Nat) (hst : z.st = 0 ∨ z.st = 1) :
    Calls Try.prog 49 #[.agg #[.int .i64 3, .int .i64 j, .slice ab nb cb], .pointer (some ⟨D, 0, none⟩)] w (DoPost base X D Z cap (setZ d j (finish z)) 0 w) := by
  have hj : j < d.zs.length := (List.getElem?_eq_some_iff.1 hz).1
  have hjv : j < vs.length := by rw [OA.len]; exact hj
  have hbt := OA.dat j z vs[j] hz (List.getElem?_eq_getElem hjv)
  obtain ⟨q0, q1, q2⟩ := zcs_at d.zs vs OA.len j z vs[j] hz (List.getElem?_eq_getElem hjv)
  obtain ⟨a2, c2, hvj⟩ := hbt.open
  rw [hvj] at hbt q1
  have hbZ : base ≤ Z := (OA.row.lt Z rfl).1
  have HQ0 := Lib.hid ((OA.row.cellAt (j * 3) (by omega)).trans q0)
  have HQ1 := Lib.hid ((OA.row.cellAt (j * 3 + 1) (by omega)).trans q1)
  have HQ2 := Lib.hid ((OA.row.cellAt (j * 3 + 2) (by omega)).trans q2)
  have HFZ := Lib.hid (OA.row.frozenAt)
  have HOA := Lib.hid OA
  have HBT := Lib.hid hbt
  have HZ := Lib.hid hz
  have HXS := Lib.hid hXs
  have lD := block_lt OA.blk
  have lZ := (OA.row.lt Z rfl).2
  have cb1 := OA.blk
  have i1 : (0 : Int) ≤ (j : Int) := by omega
  have i2 : (j : Int) < (d.zs.length : Int) := by omega
  have i3 : decide ((j : Int) < 0) = false := decide_eq_false (by omega)
  have i4 : decide ((d.zs.length : Int) ≤ (j : Int)) = false := decide_eq_false (by omega)
  have i5 : decide (d.zs.length ≤ j) = false := decide_eq_false (by omega)
  clear OA hbt hz hvj q0 q1 q2 hXs hjv hj
  go_enter Try.func49, Try.ntmps49
  go_wp2_with fail
  refine code_world (fun wa e0 => ?_)
  obtain ⟨gB, hba, _⟩ := one_alloc e0
  clear e0
  obtain ⟨B, hB⟩ : ∃ B, w.heap.size = B := ⟨_, rfl⟩
  rw [hB] at gB lD lZ ⊢
  have b0 : wa.cell? ⟨B, 0, none⟩ = some (.int .i64 3) := (cell_of_block gB 0).trans rfl
  have b1 : wa.cell? ⟨B, 1, none⟩ = some (.int .i64 j) := (cell_of_block gB 1).trans rfl
  have d1 : wa.cell? ⟨D, 1, none⟩ = some (.slice (some ⟨Z, 0, none⟩) d.zs.length cap) := (cell_of_block (blk_on cb1 hba) 1).trans rfl
  go_quiet (fail)
  go_wp2_with fail
  refine code_world (fun wc ec => ?_)
  have hbc : Below wa.heap.size wa wc := by rw [ec]; exact below_drewN (Below.refl _ _) _
  clear ec
  have hb2 : Below w.heap.size w wc := hba.trans (hbc.mono hba.size)
  have gB2 := blk_on gB hbc
  have lB2 := block_lt gB2
  have hs2 := hb2.size
  clear b0 b1 d1 hba hbc gB i3 i4 i5
  have d1 : wc.cell? ⟨D, 1, none⟩ = some (.slice (some ⟨Z, 0, none⟩) d.zs.length cap) := (cell_of_block (blk_on cb1 hb2) 1).trans rfl
  have b1 : wc.cell? ⟨B, 1, none⟩ = some (.int .i64 j) := (cell_of_block gB2 1).trans rfl
  have lZ' : Z < w.heap.size := by rw [hB]; exact lZ
  have cz0 : wc.cell? ⟨Z, j * 3, none⟩ = some (.int .i64 z.st) := (hb2.cell (p := ⟨Z, j * 3, none⟩) lZ').trans HQ0.out
  have cz1 : wc.cell? ⟨Z, j * 3 + 1, none⟩ = some (.slice a2 z.data.length c2) := (hb2.cell (p := ⟨Z, j * 3 + 1, none⟩) lZ').trans HQ1.out
  have cz2 : wc.cell? ⟨Z, j * 3 + 2, none⟩ = some (.int .i64 z.lasts) := (hb2.cell (p := ⟨Z, j * 3 + 2, none⟩) lZ').trans HQ2.out
  have lZ2 : Z < wc.heap.size := by omega
  have lD2 : D < wc.heap.size := by omega
  have gd1 : ∀ w', Below wc.heap.size wc w' → w'.cell? ⟨D, 1, none⟩ = some (.slice (some ⟨Z, 0, none⟩) d.zs.length cap) := fun w' h => (h.cell (p := ⟨D, 1, none⟩) lD2).trans d1
  have gb1 : ∀ w', Below wc.heap.size wc w' → w'.cell? ⟨B, 1, none⟩ = some (.int .i64 j) := fun w' h => (h.cell (p := ⟨B, 1, none⟩) lB2).trans b1
  have gz0 : ∀ w', Below wc.heap.size wc w' → w'.cell? ⟨Z, j * 3, none⟩ = some (.int .i64 z.st) := fun w' h => (h.cell (p := ⟨Z, j * 3, none⟩) lZ2).trans cz0
  have gz1 : ∀ w', Below wc.heap.size wc w' → w'.cell? ⟨Z, j * 3 + 1, none⟩ = some (.slice a2 z.data.length c2) := fun w' h => (h.cell (p := ⟨Z, j * 3 + 1, none⟩) lZ2).trans cz1
  have gz2 : ∀ w', Below wc.heap.size wc w' → w'.cell? ⟨Z, j * 3 + 2, none⟩ = some (.int .i64 z.lasts) := fun w' h => (h.cell (p := ⟨Z, j * 3 + 2, none⟩) lZ2).trans cz2
  clear d1 b1 cz0 cz1 cz2
  refine wp_region_noPanic ?_
  refine wp_region_till (T := Below wc.heap.size wc) 9 (by kernel_rfl) ?_ (fun hTill => ?_)
  · exact below_self_drew wc
  refine takeM 0 (v := ?_) rfl (by kernel_rfl) (by kernel_rfl) (by kernel_rfl) (by kernel_rfl) (fun _ _ _ h => h) (Or.inl ⟨by rfl, ?_⟩) (by assumption) (fun hTill => ?_)
  rotate_left
  · (intro w hSw; go_simp; try with_reducible rfl)
  (try simp only [Act.put, List.setIfInBounds_toArray, List.set_cons_zero, List.set_cons_succ])
  refine takeM 1 (v := ?_) rfl (by kernel_rfl) (by kernel_rfl) (by kernel_rfl) (by kernel_rfl) (fun _ _ _ h => h) (Or.inl ⟨by rfl, ?_⟩) (by assumption) (fun hTill => ?_)
  rotate_left
  · (intro w hSw; go_simp; try with_reducible rfl)
  (try simp only [Act.put, List.setIfInBounds_toArray, List.set_cons_zero, List.set_cons_succ])
  refine takeM 2 (v := ?_) rfl (by kernel_rfl) (by kernel_rfl) (by kernel_rfl) (by kernel_rfl) (fun _ _ _ h => h) (Or.inl ⟨by rfl, ?_⟩) (by assumption) (fun hTill => ?_)
  rotate_left
  · (intro w hSw; go_simp; try with_reducible rfl)
  (try simp only [Act.put, List.setIfInBounds_toArray, List.set_cons_zero, List.set_cons_succ])
  refine takeT 3 (v := ?_) rfl (by kernel_rfl) (by kernel_rfl) (by kernel_rfl) (by kernel_rfl) (by kernel_rfl) (by kernel_rfl) (fun _ _ _ h => h) (Or.inl ⟨by rfl, ?_⟩) (by assumption) (fun hTill => ?_)
  rotate_left
  · (intro w hSw; go_simp; try with_reducible rfl)
  (try simp only [Act.put, List.setIfInBounds_toArray, List.set_cons_zero, List.set_cons_succ])
  refine takeM 4 (v := ?_) rfl (by kernel_rfl) (by kernel_rfl) (by kernel_rfl) (by kernel_rfl) (fun _ _ _ h => h) (Or.inl ⟨by rfl, ?_⟩) (by assumption) (fun hTill => ?_)
  rotate_left
  · (intro w hSw; go_simp; try with_reducible rfl)
  (try simp only [Act.put, List.setIfInBounds_toArray, List.set_cons_zero, List.set_cons_succ])
  refine takeT 5 (v := ?_) rfl (by kernel_rfl) (by kernel_rfl) (by kernel_rfl) (by kernel_rfl) (by kernel_rfl) (by kernel_rfl) (fun _ _ _ h => h) (Or.inl ⟨by rfl, ?_⟩) (by assumption) (fun hTill => ?_)
  rotate_left
  · (intro w hSw; go_simp; try with_reducible rfl)
  (try simp only [Act.put, List.setIfInBounds_toArray, List.set_cons_zero, List.set_cons_succ])
  refine takeM 6 (v := ?_) rfl (by kernel_rfl) (by kernel_rfl) (by kernel_rfl) (by kernel_rfl) (fun _ _ _ h => h) (Or.inl ⟨by rfl, ?_⟩) (by assumption) (fun hTill => ?_)
  rotate_left
  · (intro w hSw; go_simp; try with_reducible rfl)
  (try simp only [Act.put, List.setIfInBounds_toArray, List.set_cons_zero, List.set_cons_succ])
  refine takeT 7 (v := ?_) rfl (by kernel_rfl) (by kernel_rfl) (by kernel_rfl) (by kernel_rfl) (by kernel_rfl) (by kernel_rfl) (fun _ _ _ h => h) (Or.inl ⟨by rfl, ?_⟩) (by assumption) (fun hTill => ?_)
  rotate_left
  · (intro w hSw; go_simp; try with_reducible rfl)
  (try simp only [Act.put, List.setIfInBounds_toArray, List.set_cons_zero, List.set_cons_succ])
  refine stepM 8 rfl (by kernel_rfl) (fun K hK => ?_)
  go_simp
  refine hK.out _ _ ?_ (fun hTill => ?_)
  · exact fun _ => ((Below.refl _ wc).drew).alloc (Nat.le_refl _) _
  clear hK K
  (try simp only [Act.put, List.setIfInBounds_toArray, List.set_cons_zero, List.set_cons_succ])
  refine stepM 9 rfl (by kernel_rfl) (fun K hK => ?_)
  go_simp
  refine hK.out _ _ ?_ (fun hTill => ?_)
  · exact till_over (by kernel_rfl)
  clear hK K
  (try simp only [Act.put, List.setIfInBounds_toArray, List.set_cons_zero, List.set_cons_succ])
  refine doneM (by kernel_rfl) ?_ _
  refine NoPanic.normal ?_
  clear gd1 gb1 gz0 gz1 gz2
  generalize e0 : (World.alloc wc _).drew = wd
  obtain ⟨gA, hbd, hsd⟩ := alloc_drew e0
  clear e0
  have hs3 : wd.heap.size = wc.heap.size + 1 := hsd
  have hb3 : Below w.heap.size w wd := hb2.trans (hbd.mono hs2)
  obtain ⟨A, hA⟩ : ∃ A, wc.heap.size = A := ⟨_, rfl⟩
  have gB3 := blk_on gB2 hbd
  have gA := (show wd.heap[A]? = _ from hA ▸ gA)
  have b0 : wd.cell? ⟨B, 0, none⟩ = some (.int .i64 3) := (cell_of_block gB3 0).trans rfl
  have a0 : wd.cell? ⟨A, 0, none⟩ = some (.int .i64 z.st) := (cell_of_block gA 0).trans rfl
  have a1 : wd.cell? ⟨A, 1, none⟩ = some (.slice a2 z.data.length c2) := (cell_of_block gA 1).trans rfl
  have a2' : wd.cell? ⟨A, 2, none⟩ = some (.int .i64 z.lasts) := (cell_of_block gA 2).trans rfl
  rw [hA] at lB2 lZ2 lD2 hs3 hs2 ⊢
  replace hs3 : A + 1 ≤ wd.heap.size := by omega
  clear gB2 hbd hsd
  go_wp2_with fail
  refine (zfinish_any z.st z.lasts hst a2 z.data.length c2 z.data _ (HBT.out.1.below hb3)).mono ?_
  rintro e wf ⟨⟨v, rfl, hv⟩, hbf⟩
  have hlX : ∀ x ∈ A :: X, x < wd.heap.size := by
    intro x hx
    rcases List.mem_cons.1 hx with rfl | hx
    · omega
    · have := HXS.out x hx
      omega
  obtain ⟨a3, c3, rfl, _⟩ := own_bt hv HBT.out.1.len.2.2.2
  have hbo : BtO (A :: X) wf (.slice a3 z.data.length c3) z.data := BtO.own hv HBT.out.1.len.2.2.2 hlX
  have HBO := Lib.hid hbo
  clear hlX hbo hv
  have hiz : (Try.prog.info? 52).map (·.size) = some 3 := by kernel_rfl
  have gA2 := blk_on gA hbf
  have gB4 := blk_on gB3 hbf
  have hb5 : Below w.heap.size w wf := hb3.trans (hbf.mono hb3.size)
  have hszf := hbf.size
  have hone : (#[.int .i64 2, .slice a3 z.data.length c3, .int .i64 z.lasts] : Array Value).all (·.oneCell') = true := by simp; exact ⟨rfl, rfl, rfl⟩
  have HBF := Lib.hid hbf
  clear gA hbf hb3 gB3 b0 a0 a1 a2'
  unfold zv
  go_wp2_with (refine wpList_lay (by rfl) 52 (.tmp 5) (.tmp 54) rfl A #[.int .i64 2, .slice a3 z.data.length c3, .int .i64 z.lasts] (by rfl) (by rfl) 52 _ gA2 3 hiz rfl rfl hone ?_; intro wg hL)
  refine code_world (fun wk ek => ?_)
  obtain rfl : wk = wg := ek
  have hb6 : Below w.heap.size w wk := hb5.trans (hL.bel.mono (by omega))
  have HL9 := Lib.hid hL
  have gA3 := hL.blk
  have gB5 := (hL.rest B (by omega)).trans gB4
  have hsk := hL.size
  have lZ' : Z < w.heap.size := by rw [hB]; exact lZ
  have lD' : D < w.heap.size := by rw [hB]; exact lD
  have lBk : B < wk.heap.size := by omega
  have lAk : A < wk.heap.size := by omega
  have lZk : Z < wk.heap.size := by omega
  have lDk : D < wk.heap.size := by omega
  have d1 : wk.cell? ⟨D, 1, none⟩ = some (.slice (some ⟨Z, 0, none⟩) d.zs.length cap) := (cell_of_block (blk_on cb1 hb6) 1).trans rfl
  have b1 : wk.cell? ⟨B, 1, none⟩ = some (.int .i64 j) := (cell_of_block gB5 1).trans rfl
  have x0 : wk.cell? ⟨A, 0, none⟩ = some (.int .i64 2) := (cell_of_block gA3 0).trans rfl
  have x1 : wk.cell? ⟨A, 1, none⟩ = some (.slice a3 z.data.length c3) := (cell_of_block gA3 1).trans rfl
  have x2 : wk.cell? ⟨A, 2, none⟩ = some (.int .i64 z.lasts) := (cell_of_block gA3 2).trans rfl
  have gd1 : ∀ w', Below wk.heap.size wk w' → w'.cell? ⟨D, 1, none⟩ = some (.slice (some ⟨Z, 0, none⟩) d.zs.length cap) := fun w' h => (h.cell (p := ⟨D, 1, none⟩) lDk).trans d1
  have gb1 : ∀ w', Below wk.heap.size wk w' → w'.cell? ⟨B, 1, none⟩ = some (.int .i64 j) := fun w' h => (h.cell (p := ⟨B, 1, none⟩) lBk).trans b1
  have gx0 : ∀ w', Below wk.heap.size wk w' → w'.cell? ⟨A, 0, none⟩ = some (.int .i64 2) := fun w' h => (h.cell (p := ⟨A, 0, none⟩) lAk).trans x0
  have gx1 : ∀ w', Below wk.heap.size wk w' → w'.cell? ⟨A, 1, none⟩ = some (.slice a3 z.data.length c3) := fun w' h => (h.cell (p := ⟨A, 1, none⟩) lAk).trans x1
  have gx2 : ∀ w', Below wk.heap.size wk w' → w'.cell? ⟨A, 2, none⟩ = some (.int .i64 z.lasts) := fun w' h => (h.cell (p := ⟨A, 2, none⟩) lAk).trans x2
  have cz0 : wk.cell? ⟨Z, j * 3, none⟩ = some (.int .i64 z.st) := (hb6.cell (p := ⟨Z, j * 3, none⟩) lZ').trans HQ0.out
  have cz1 : wk.cell? ⟨Z, j * 3 + 1, none⟩ = some (.slice a2 z.data.length c2) := (hb6.cell (p := ⟨Z, j * 3 + 1, none⟩) lZ').trans HQ1.out
  have cz2 : wk.cell? ⟨Z, j * 3 + 2, none⟩ = some (.int .i64 z.lasts) := (hb6.cell (p := ⟨Z, j * 3 + 2, none⟩) lZ').trans HQ2.out
  have fz0 : wk.frozen? ⟨Z, j * 3, none⟩ = false := (hb6.frozen (p := ⟨Z, j * 3, none⟩) lZ').trans (HFZ.out (j * 3))
  have fz1 : wk.frozen? ⟨Z, j * 3 + 1, none⟩ = false := (hb6.frozen (p := ⟨Z, j * 3 + 1, none⟩) lZ').trans (HFZ.out (j * 3 + 1))
  have fz2 : wk.frozen? ⟨Z, j * 3 + 2, none⟩ = false := (hb6.frozen (p := ⟨Z, j * 3 + 2, none⟩) lZ').trans (HFZ.out (j * 3 + 2))
  clear d1 b1 x0 x1 x2 gA2 gB4 gB5 hone hL hsk hs3
  refine wp_region_noPanic ?_
  refine wp_region_till (T := Below wk.heap.size wk) 8 (by kernel_rfl) ?_ (fun hTill => ?_)
  · exact below_self_drew wk
  refine takeM 0 (v := ?_) rfl (by kernel_rfl) (by kernel_rfl) (by kernel_rfl) (by kernel_rfl) (fun _ _ _ h => h) (Or.inl ⟨by rfl, ?_⟩) (by assumption) (fun hTill => ?_)
  rotate_left
  · (intro w hSw; go_simp; try with_reducible rfl)
  (try simp only [Act.put, List.setIfInBounds_toArray, List.set_cons_zero, List.set_cons_succ])
  refine takeM 1 (v := ?_) rfl (by kernel_rfl) (by kernel_rfl) (by kernel_rfl) (by kernel_rfl) (fun _ _ _ h => h) (Or.inl ⟨by rfl, ?_⟩) (by assumption) (fun hTill => ?_)
  rotate_left
  · (intro w hSw; go_simp; try with_reducible rfl)
  (try simp only [Act.put, List.setIfInBounds_toArray, List.set_cons_zero, List.set_cons_succ])
  refine takeM 2 (v := ?_) rfl (by kernel_rfl) (by kernel_rfl) (by kernel_rfl) (by kernel_rfl) (fun _ _ _ h => h) (Or.inl ⟨by rfl, ?_⟩) (by assumption) (fun hTill => ?_)
  rotate_left
  · (intro w hSw; go_simp; try with_reducible rfl)
  (try simp only [Act.put, List.setIfInBounds_toArray, List.set_cons_zero, List.set_cons_succ])
  refine takeT 3 (v := ?_) rfl (by kernel_rfl) (by kernel_rfl) (by kernel_rfl) (by kernel_rfl) (by kernel_rfl) (by kernel_rfl) (fun _ _ _ h => h) (Or.inl ⟨by rfl, ?_⟩) (by assumption) (fun hTill => ?_)
  rotate_left
  · (intro w hSw; go_simp; try with_reducible rfl)
  (try simp only [Act.put, List.setIfInBounds_toArray, List.set_cons_zero, List.set_cons_succ])
  refine takeM 4 (v := ?_) rfl (by kernel_rfl) (by kernel_rfl) (by kernel_rfl) (by kernel_rfl) (fun _ _ _ h => h) (Or.inl ⟨by rfl, ?_⟩) (by assumption) (fun hTill => ?_)
  rotate_left
  · (intro w hSw; go_simp; try with_reducible rfl)
  (try simp only [Act.put, List.setIfInBounds_toArray, List.set_cons_zero, List.set_cons_succ])
  refine takeT 5 (v := ?_) rfl (by kernel_rfl) (by kernel_rfl) (by kernel_rfl) (by kernel_rfl) (by kernel_rfl) (by kernel_rfl) (fun _ _ _ h => h) (Or.inl ⟨by rfl, ?_⟩) (by assumption) (fun hTill => ?_)
  rotate_left
  · (intro w hSw; go_simp; try with_reducible rfl)
  (try simp only [Act.put, List.setIfInBounds_toArray, List.set_cons_zero, List.set_cons_succ])
  refine takeT 6 (v := ?_) rfl (by kernel_rfl) (by kernel_rfl) (by kernel_rfl) (by kernel_rfl) (by kernel_rfl) (by kernel_rfl) (fun _ _ _ h => h) (Or.inl ⟨by rfl, ?_⟩) (by assumption) (fun hTill => ?_)
  rotate_left
  · (intro w hSw; go_simp; try with_reducible rfl)
  (try simp only [Act.put, List.setIfInBounds_toArray, List.set_cons_zero, List.set_cons_succ])
  refine takeM 7 (v := ?_) rfl (by kernel_rfl) (by kernel_rfl) (by kernel_rfl) (by kernel_rfl) (fun _ _ _ h => h) (Or.inl ⟨by rfl, ?_⟩) (by assumption) (fun hTill => ?_)
  rotate_left
  · (intro w hSw; go_simp; try with_reducible rfl)
  (try simp only [Act.put, List.setIfInBounds_toArray, List.set_cons_zero, List.set_cons_succ])
  refine stepM 8 rfl (by kernel_rfl) (fun K hK => ?_)
  go_simp
  refine hK.out _ _ ?_ (fun hTill => ?_)
  · exact till_over (by kernel_rfl)
  clear hK K
  (try simp only [Act.put, List.setIfInBounds_toArray, List.set_cons_zero, List.set_cons_succ])
  refine doneM (by kernel_rfl) ?_ _
  refine NoPanic.normal ?_
  clear gd1 gb1 gx0 gx1 gx2 cz0 cz1 cz2 fz0 fz1 fz2
  go_wp2
  go_ret
  have hb7 : Below w.heap.size w wk.drew := hb6.drew
  have O7 := (HOA.out.below hb7).zone hXZ j (by omega) (finish z) (.slice a3 z.data.length c3) ((HBO.out.away ((Away.laid HL9.out (by simp)).trans (Away.of_below (Below.refl _ wk).drew))).less (fun y hy => List.mem_cons_of_mem _ hy))
  have hzz : base ≤ Z := hbZ
  exact ⟨rfl, (hb7.mono (by have := block_lt HOA.out.blk; omega)).trans (below_three _ hzz), (Away.of_below hb7).trans (away_three _ _ (by simp)), _, _, _, _, _, O7⟩
set_option linter.unusedSimpArgs false in
set_option maxRecDepth 100000 in
set_option maxHeartbeats 4000000 in
theorem zdo_append1 (base : Nat) (X : List Nat) (D Z cap : Nat) (vs : List Value) (r0 r1 f0 f1 : Value) (d : Dv) (w : World) (OA : OwnAt base X D Z cap vs r0 r1 f0 f1 d w) (hXZ : Z ∈ X) (hXs : ∀ x ∈ X, x < w.heap.size) (hbD : base ≤ D) (j : Nat) (z : Zn) (hz : d.zs[j]? = some z) (ab : Option Addr) (nb cb : Nat) (b : List UInt8) (hb : Bt w (.slice ab nb cb) b) (had : ∃ ad, ab = some ad) (hok : zoneOk d.size z = true) (hne : 0 < b.length) (hroom : (b.length : Int) ≤ d.size - (z.data.length : Int)) (hsz : d.size ≤ 65536) (hst : z.st = 1) :
    Calls Try.prog 49 #[.agg #[.int .i64 1, .int .i64 j, .slice ab nb cb], .pointer (some ⟨D, 0, none⟩)] w (DoPost base X D Z cap (setZ d j (grow d.size z b)) 0 w) := by
  have hj : j < d.zs.length := (List.getElem?_eq_some_iff.1 hz).1
  have hjv : j < vs.length := by rw [OA.len]; exact hj
  have hbt := OA.dat j z vs[j] hz (List.getElem?_eq_getElem hjv)
  obtain ⟨q0, q1, q2⟩ := zcs_at d.zs vs OA.len j z vs[j] hz (List.getElem?_eq_getElem hjv)
  obtain ⟨a2, c2, hvj⟩ := hbt.open
  rw [hvj] at hbt q1
  have hbZ : base ≤ Z := (OA.row.lt Z rfl).1
  have HQ0 := Lib.hid ((OA.row.cellAt (j * 3) (by omega)).trans q0)
  have HQ1 := Lib.hid ((OA.row.cellAt (j * 3 + 1) (by omega)).trans q1)
  have HQ2 := Lib.hid ((OA.row.cellAt (j * 3 + 2) (by omega)).trans q2)
  have HFZ := Lib.hid (OA.row.frozenAt)
  have HOA := Lib.hid OA
  have HBT := Lib.hid hbt
  have HZ := Lib.hid hz
  have HXS := Lib.hid hXs
  have lD := block_lt OA.blk
  have lZ := (OA.row.lt Z rfl).2
  have cb1 := OA.blk
  have i1 : (0 : Int) ≤ (j : Int) := by omega
  have i2 : (j : Int) < (d.zs.length : Int) := by omega
  have i3 : decide ((j : Int) < 0) = false := decide_eq_false (by omega)
  have i4 : decide ((d.zs.length : Int) ≤ (j : Int)) = false := decide_eq_false (by omega)
  have i5 : decide (d.zs.length ≤ j) = false := decide_eq_false (by omega)
  clear OA hbt hz hvj q0 q1 q2 hXs hjv hj
  have es : (z.st == 0) = false := by rw [hst]; rfl
  have HST := Lib.hid hst
  clear hst
  go_enter Try.func49, Try.ntmps49
  go_wp2_with fail
  refine code_world (fun wa e0 => ?_)
  obtain ⟨gB, hba, _⟩ := one_alloc e0
  clear e0
  obtain ⟨B, hB⟩ : ∃ B, w.heap.size = B := ⟨_, rfl⟩
  rw [hB] at gB lD lZ ⊢
  have b0 : wa.cell? ⟨B, 0, none⟩ = some (.int .i64 1) := (cell_of_block gB 0).trans rfl
  have b1 : wa.cell? ⟨B, 1, none⟩ = some (.int .i64 j) := (cell_of_block gB 1).trans rfl
  have d1 : wa.cell? ⟨D, 1, none⟩ = some (.slice (some ⟨Z, 0, none⟩) d.zs.length cap) := (cell_of_block (blk_on cb1 hba) 1).trans rfl
  go_quiet (fail)
  go_wp2_with fail
  refine code_world (fun wc ec => ?_)
  have hbc : Below wa.heap.size wa wc := by rw [ec]; exact below_drewN (Below.refl _ _) _
  clear ec
  have hb2 : Below w.heap.size w wc := hba.trans (hbc.mono hba.size)
  have gB2 := blk_on gB hbc
  have lB2 := block_lt gB2
  have hs2 := hb2.size
  clear b0 b1 d1 hba hbc gB i3 i4 i5
  have d1 : wc.cell? ⟨D, 1, none⟩ = some (.slice (some ⟨Z, 0, none⟩) d.zs.length cap) := (cell_of_block (blk_on cb1 hb2) 1).trans rfl
  have b1 : wc.cell? ⟨B, 1, none⟩ = some (.int .i64 j) := (cell_of_block gB2 1).trans rfl
  have lZ' : Z < w.heap.size := by rw [hB]; exact lZ
  have cz0 : wc.cell? ⟨Z, j * 3, none⟩ = some (.int .i64 z.st) := (hb2.cell (p := ⟨Z, j * 3, none⟩) lZ').trans HQ0.out
  have cz1 : wc.cell? ⟨Z, j * 3 + 1, none⟩ = some (.slice a2 z.data.length c2) := (hb2.cell (p := ⟨Z, j * 3 + 1, none⟩) lZ').trans HQ1.out
  have cz2 : wc.cell? ⟨Z, j * 3 + 2, none⟩ = some (.int .i64 z.lasts) := (hb2.cell (p := ⟨Z, j * 3 + 2, none⟩) lZ').trans HQ2.out
  have lZ2 : Z < wc.heap.size := by omega
  have lD2 : D < wc.heap.size := by omega
  have gd1 : ∀ w', Below wc.heap.size wc w' → w'.cell? ⟨D, 1, none⟩ = some (.slice (some ⟨Z, 0, none⟩) d.zs.length cap) := fun w' h => (h.cell (p := ⟨D, 1, none⟩) lD2).trans d1
  have gb1 : ∀ w', Below wc.heap.size wc w' → w'.cell? ⟨B, 1, none⟩ = some (.int .i64 j) := fun w' h => (h.cell (p := ⟨B, 1, none⟩) lB2).trans b1
  have gz0 : ∀ w', Below wc.heap.size wc w' → w'.cell? ⟨Z, j * 3, none⟩ = some (.int .i64 z.st) := fun w' h => (h.cell (p := ⟨Z, j * 3, none⟩) lZ2).trans cz0
  have gz1 : ∀ w', Below wc.heap.size wc w' → w'.cell? ⟨Z, j * 3 + 1, none⟩ = some (.slice a2 z.data.length c2) := fun w' h => (h.cell (p := ⟨Z, j * 3 + 1, none⟩) lZ2).trans cz1
  have gz2 : ∀ w', Below wc.heap.size wc w' → w'.cell? ⟨Z, j * 3 + 2, none⟩ = some (.int .i64 z.lasts) := fun w' h => (h.cell (p := ⟨Z, j * 3 + 2, none⟩) lZ2).trans cz2
  clear d1 b1 cz0 cz1 cz2
  refine wp_region_noPanic ?_
  refine wp_region_till (T := Below wc.heap.size wc) 9 (by kernel_rfl) ?_ (fun hTill => ?_)
  · exact below_self_drew wc
  refine takeM 0 (v := ?_) rfl (by kernel_rfl) (by kernel_rfl) (by kernel_rfl) (by kernel_rfl) (fun _ _ _ h => h) (Or.inl ⟨by rfl, ?_⟩) (by assumption) (fun hTill => ?_)
  rotate_left
  · (intro w hSw; go_simp; try with_reducible rfl)
  (try simp only [Act.put, List.setIfInBounds_toArray, List.set_cons_zero, List.set_cons_succ])
  refine takeM 1 (v := ?_) rfl (by kernel_rfl) (by kernel_rfl) (by kernel_rfl) (by kernel_rfl) (fun _ _ _ h => h) (Or.inl ⟨by rfl, ?_⟩) (by assumption) (fun hTill => ?_)
  rotate_left
  · (intro w hSw; go_simp; try with_reducible rfl)
  (try simp only [Act.put, List.setIfInBounds_toArray, List.set_cons_zero, List.set_cons_succ])
  refine takeM 2 (v := ?_) rfl (by kernel_rfl) (by kernel_rfl) (by kernel_rfl) (by kernel_rfl) (fun _ _ _ h => h) (Or.inl ⟨by rfl, ?_⟩) (by assumption) (fun hTill => ?_)
  rotate_left
  · (intro w hSw; go_simp; try with_reducible rfl)
  (try simp only [Act.put, List.setIfInBounds_toArray, List.set_cons_zero, List.set_cons_succ])
  refine takeT 3 (v := ?_) rfl (by kernel_rfl) (by kernel_rfl) (by kernel_rfl) (by kernel_rfl) (by kernel_rfl) (by kernel_rfl) (fun _ _ _ h => h) (Or.inl ⟨by rfl, ?_⟩) (by assumption) (fun hTill => ?_)
  rotate_left
  · (intro w hSw; go_simp; try with_reducible rfl)
  (try simp only [Act.put, List.setIfInBounds_toArray, List.set_cons_zero, List.set_cons_succ])
  refine takeM 4 (v := ?_) rfl (by kernel_rfl) (by kernel_rfl) (by kernel_rfl) (by kernel_rfl) (fun _ _ _ h => h) (Or.inl ⟨by rfl, ?_⟩) (by assumption) (fun hTill => ?_)
  rotate_left
  · (intro w hSw; go_simp; try with_reducible rfl)
  (try simp only [Act.put, List.setIfInBounds_toArray, List.set_cons_zero, List.set_cons_succ])
  refine takeT 5 (v := ?_) rfl (by kernel_rfl) (by kernel_rfl) (by kernel_rfl) (by kernel_rfl) (by kernel_rfl) (by kernel_rfl) (fun _ _ _ h => h) (Or.inl ⟨by rfl, ?_⟩) (by assumption) (fun hTill => ?_)
  rotate_left
  · (intro w hSw; go_simp; try with_reducible rfl)
  (try simp only [Act.put, List.setIfInBounds_toArray, List.set_cons_zero, List.set_cons_succ])
  refine takeM 6 (v := ?_) rfl (by kernel_rfl) (by kernel_rfl) (by kernel_rfl) (by kernel_rfl) (fun _ _ _ h => h) (Or.inl ⟨by rfl, ?_⟩) (by assumption) (fun hTill => ?_)
  rotate_left
  · (intro w hSw; go_simp; try with_reducible rfl)
  (try simp only [Act.put, List.setIfInBounds_toArray, List.set_cons_zero, List.set_cons_succ])
  refine takeT 7 (v := ?_) rfl (by kernel_rfl) (by kernel_rfl) (by kernel_rfl) (by kernel_rfl) (by kernel_rfl) (by kernel_rfl) (fun _ _ _ h => h) (Or.inl ⟨by rfl, ?_⟩) (by assumption) (fun hTill => ?_)
  rotate_left
  · (intro w hSw; go_simp; try with_reducible rfl)
  (try simp only [Act.put, List.setIfInBounds_toArray, List.set_cons_zero, List.set_cons_succ])
  refine stepM 8 rfl (by kernel_rfl) (fun K hK => ?_)
  go_simp
  refine hK.out _ _ ?_ (fun hTill => ?_)
  · exact fun _ => ((Below.refl _ wc).drew).alloc (Nat.le_refl _) _
  clear hK K
  (try simp only [Act.put, List.setIfInBounds_toArray, List.set_cons_zero, List.set_cons_succ])
  refine stepM 9 rfl (by kernel_rfl) (fun K hK => ?_)
  go_simp
  refine hK.out _ _ ?_ (fun hTill => ?_)
  · exact till_over (by kernel_rfl)
  clear hK K
  (try simp only [Act.put, List.setIfInBounds_toArray, List.set_cons_zero, List.set_cons_succ])
  refine doneM (by kernel_rfl) ?_ _
  refine NoPanic.normal ?_
  clear gd1 gb1 gz0 gz1 gz2
  generalize e0 : (World.alloc wc _).drew = wd
  obtain ⟨gA, hbd, hsd⟩ := alloc_drew e0
  clear e0
  have hs3 : wd.heap.size = wc.heap.size + 1 := hsd
  have hb3 : Below w.heap.size w wd := hb2.trans (hbd.mono hs2)
  obtain ⟨A, hA⟩ : ∃ A, wc.heap.size = A := ⟨_, rfl⟩
  have gB3 := blk_on gB2 hbd
  have gA := (show wd.heap[A]? = _ from hA ▸ gA)
  have b0 : wd.cell? ⟨B, 0, none⟩ = some (.int .i64 1) := (cell_of_block gB3 0).trans rfl
  have a0 : wd.cell? ⟨A, 0, none⟩ = some (.int .i64 z.st) := (cell_of_block gA 0).trans rfl
  have a1 : wd.cell? ⟨A, 1, none⟩ = some (.slice a2 z.data.length c2) := (cell_of_block gA 1).trans rfl
  have a2' : wd.cell? ⟨A, 2, none⟩ = some (.int .i64 z.lasts) := (cell_of_block gA 2).trans rfl
  rw [hA] at lB2 lZ2 lD2 hs3 hs2 ⊢
  replace hs3 : A + 1 ≤ wd.heap.size := by omega
  clear gB2 hbd hsd
  have HAD := Lib.hid had
  have HOK := Lib.hid hok
  have HTK := Lib.hid (show z.st = 0 ∨ z.st = 1 from by have := HST.out; omega)
  have HNE := Lib.hid hne
  have HRM := Lib.hid hroom
  have HSZ := Lib.hid hsz
  have HBB := Lib.hid hb
  have hAB : A ≠ B ∧ B < wd.heap.size := by omega
  have hZA : Z < wd.heap.size ∧ D < wd.heap.size ∧ A < wd.heap.size := by omega
  have HLX := Lib.hid (show ∀ x ∈ A :: X, x < wd.heap.size from by
    intro x hx
    rcases List.mem_cons.1 hx with rfl | hx
    · omega
    · have := HXS.out x hx
      omega)
  obtain ⟨L, hLL⟩ : ∃ L, z.data ++ b = L := ⟨_, rfl⟩
  have HLB := Lib.hid (show L.length ≤ 140737488355328 from by rw [← hLL, List.length_append]; omega)
  have HLL := Lib.hid hLL
  clear hLL
  clear had hok hne hroom hsz hb hs3
  go_wp2_with fail
  clear b0 a0 a1 a2'
  have ga0 : ∀ w', Below wd.heap.size wd w' → w'.cell? ⟨A, 0, none⟩ = some (.int .i64 z.st) := fun w' h => (h.cell (p := ⟨A, 0, none⟩) (block_lt gA)).trans ((cell_of_block gA 0).trans rfl)
  have ga1 : ∀ w', Below wd.heap.size wd w' → w'.cell? ⟨A, 1, none⟩ = some (.slice a2 z.data.length c2) := fun w' h => (h.cell (p := ⟨A, 1, none⟩) (block_lt gA)).trans ((cell_of_block gA 1).trans rfl)
  have ga2 : ∀ w', Below wd.heap.size wd w' → w'.cell? ⟨A, 2, none⟩ = some (.int .i64 z.lasts) := fun w' h => (h.cell (p := ⟨A, 2, none⟩) (block_lt gA)).trans ((cell_of_block gA 2).trans rfl)
  have gb2 : ∀ w', Below wd.heap.size wd w' → w'.cell? ⟨B, 2, none⟩ = some (.slice ab nb cb) := fun w' h => (h.cell (p := ⟨B, 2, none⟩) (block_lt gB3)).trans ((cell_of_block gB3 2).trans rfl)
  have gDk := blk_on cb1 hb3
  have gd0 : ∀ w', Below wd.heap.size wd w' → w'.cell? ⟨D, 0, none⟩ = some (.int .i64 d.size) := fun w' h => (h.cell (p := ⟨D, 0, none⟩) (block_lt gDk)).trans ((cell_of_block gDk 0).trans rfl)
  have GB3 := Lib.hid gB3
  have GA := Lib.hid gA
  have hbb3 := hb3.drew
  have HAB := Lib.hid hAB
  have HZA := Lib.hid hZA
  have hbt9 := HBT.out.1.below hbb3
  have hbB9 := HBB.out.below hbb3
  clear gDk gB3 gA hAB hZA
  refine wp_region_noPanic ?_
  refine wp_region_till (T := Below wd.heap.size wd) 11 (by kernel_rfl) ?_ (fun hTill => ?_)
  · exact below_self_drew wd
  refine takeT 0 (v := ?_) rfl (by kernel_rfl) (by kernel_rfl) (by kernel_rfl) (by kernel_rfl) (by kernel_rfl) (by kernel_rfl) (fun _ _ _ h => h) (Or.inl ⟨by rfl, ?_⟩) (by assumption) (fun hTill => ?_)
  rotate_left
  · (intro w hSw; go_simp; try with_reducible rfl)
  (try simp only [Act.put, List.setIfInBounds_toArray, List.set_cons_zero, List.set_cons_succ])
  refine takeM 1 (v := ?_) rfl (by kernel_rfl) (by kernel_rfl) (by kernel_rfl) (by kernel_rfl) (fun _ _ _ h => h) (Or.inl ⟨by rfl, ?_⟩) (by assumption) (fun hTill => ?_)
  rotate_left
  · (intro w hSw; go_simp; try with_reducible rfl)
  (try simp only [Act.put, List.setIfInBounds_toArray, List.set_cons_zero, List.set_cons_succ])
  refine takeM 2 (v := ?_) rfl (by kernel_rfl) (by kernel_rfl) (by kernel_rfl) (by kernel_rfl) (fun _ _ _ h => h) (Or.inl ⟨by rfl, ?_⟩) (by assumption) (fun hTill => ?_)
  rotate_left
  · (intro w hSw; go_simp; try with_reducible rfl)
  (try simp only [Act.put, List.setIfInBounds_toArray, List.set_cons_zero, List.set_cons_succ])
  refine takeM 3 (v := ?_) rfl (by kernel_rfl) (by kernel_rfl) (by kernel_rfl) (by kernel_rfl) (fun _ _ _ h => h) (Or.inl ⟨by rfl, ?_⟩) (by assumption) (fun hTill => ?_)
  rotate_left
  · (intro w hSw; go_simp; try with_reducible rfl)
  (try simp only [Act.put, List.setIfInBounds_toArray, List.set_cons_zero, List.set_cons_succ])
  refine takeT 4 (v := ?_) rfl (by kernel_rfl) (by kernel_rfl) (by kernel_rfl) (by kernel_rfl) (by kernel_rfl) (by kernel_rfl) (fun _ _ _ h => h) (Or.inl ⟨by rfl, ?_⟩) (by assumption) (fun hTill => ?_)
  rotate_left
  · (intro w hSw; go_simp; try with_reducible rfl)
  (try simp only [Act.put, List.setIfInBounds_toArray, List.set_cons_zero, List.set_cons_succ])
  refine takeM 5 (v := ?_) rfl (by kernel_rfl) (by kernel_rfl) (by kernel_rfl) (by kernel_rfl) (fun _ _ _ h => h) (Or.inl ⟨by rfl, ?_⟩) (by assumption) (fun hTill => ?_)
  rotate_left
  · (intro w hSw; go_simp; try with_reducible rfl)
  (try simp only [Act.put, List.setIfInBounds_toArray, List.set_cons_zero, List.set_cons_succ])
  refine takeT 6 (v := ?_) rfl (by kernel_rfl) (by kernel_rfl) (by kernel_rfl) (by kernel_rfl) (by kernel_rfl) (by kernel_rfl) (fun _ _ _ h => h) (Or.inl ⟨by rfl, ?_⟩) (by assumption) (fun hTill => ?_)
  rotate_left
  · (intro w hSw; go_simp; try with_reducible rfl)
  (try simp only [Act.put, List.setIfInBounds_toArray, List.set_cons_zero, List.set_cons_succ])
  refine stepM 7 rfl (by kernel_rfl) (fun K hK => ?_)
  (go_simp; go_at_call 69; obtain ⟨ad, rfl⟩ := HAD.out; refine (zappend_any z d.size HOK.out HTK.out a2 z.data.length c2 ad nb cb b HNE.out HRM.out HSZ.out wd.drew hbt9 hbB9).mono ?_; rintro e wf ⟨⟨v, rfl, hv⟩, hbf⟩; have hlX : ∀ x ∈ A :: X, x < wd.heap.size := HLX.out; rw [HLL.out] at hv; obtain ⟨a3, c3, rfl, _⟩ := own_bt hv HLB.out; have hbo : BtO (A :: X) wf (.slice a3 L.length c3) L := BtO.own hv HLB.out hlX; have gA2 := blk_on (w := wd.drew) GA.out hbf; have gB4 := blk_on (w := wd.drew) GB3.out hbf; have hb5 := hbb3.trans (hbf.mono hbb3.size); have hszf : wd.heap.size ≤ wf.heap.size := hbf.size; have hbw : Below wd.heap.size wd wf := (Below.refl _ wd).drew.trans hbf; have hone : (#[.int .i64 (grow d.size z b).st, .slice a3 L.length c3, .int .i64 z.lasts] : Array Value).all (·.oneCell') = true := (by simp; exact ⟨rfl, rfl, rfl⟩); unfold zv)
  refine hK.out _ _ ?_ (fun hTill => ?_)
  · exact fun _ => hbw
  clear hK K
  (try simp only [Act.put, List.setIfInBounds_toArray, List.set_cons_zero, List.set_cons_succ])
  refine takeM 8 (v := ?_) rfl (by kernel_rfl) (by kernel_rfl) (by kernel_rfl) (by kernel_rfl) (fun _ _ _ h => h) (Or.inl ⟨by rfl, ?_⟩) (by assumption) (fun hTill => ?_)
  rotate_left
  · (intro w hSw; go_simp; try with_reducible rfl)
  (try simp only [Act.put, List.setIfInBounds_toArray, List.set_cons_zero, List.set_cons_succ])
  refine takeM 9 (v := ?_) rfl (by kernel_rfl) (by kernel_rfl) (by kernel_rfl) (by kernel_rfl) (fun _ _ _ h => h) (Or.inl ⟨by rfl, ?_⟩) (by assumption) (fun hTill => ?_)
  rotate_left
  · (intro w hSw; go_simp; try with_reducible rfl)
  (try simp only [Act.put, List.setIfInBounds_toArray, List.set_cons_zero, List.set_cons_succ])
  refine takeM 10 (v := ?_) rfl (by kernel_rfl) (by kernel_rfl) (by kernel_rfl) (by kernel_rfl) (fun _ _ _ h => h) (Or.inl ⟨by rfl, ?_⟩) (by assumption) (fun hTill => ?_)
  rotate_left
  · (intro w hSw; go_simp; try with_reducible rfl)
  (try simp only [Act.put, List.setIfInBounds_toArray, List.set_cons_zero, List.set_cons_succ])
  refine stepM 11 rfl (by kernel_rfl) (fun K hK => ?_)
  (rw [if_pos (by rfl)]; refine wp_store_row 52 _ _ (by rfl) A (#[.int .i64 (grow d.size z b).st, .slice a3 L.length c3, .int .i64 z.lasts]) (by rfl) (by rfl) 52 _ gA2 (by kernel_rfl) (by rfl) hone ?_)
  refine hK.out _ _ ?_ (fun hTill => ?_)
  · exact till_over (by kernel_rfl)
  clear hK K
  (try simp only [Act.put, List.setIfInBounds_toArray, List.set_cons_zero, List.set_cons_succ])
  refine takeM 12 (v := ?_) rfl (by kernel_rfl) (by kernel_rfl) (by kernel_rfl) (by kernel_rfl) (fun _ _ _ h => h) (Or.inl ⟨by rfl, ?_⟩) (by assumption) (fun hTill => ?_)
  rotate_left
  · (intro w hSw; go_simp; try with_reducible rfl)
  (try simp only [Act.put, List.setIfInBounds_toArray, List.set_cons_zero, List.set_cons_succ])
  refine doneM (by kernel_rfl) ?_ _
  refine NoPanic.normal ?_
  clear ga0 ga1 ga2 gb2 gd0
  generalize e9 : World.setRow wf A _ = wk
  have hL : Laid wf A #[.int .i64 (grow d.size z b).st, .slice a3 L.length c3, .int .i64 z.lasts] 52 wk := e9 ▸ laid_setRow gA2
  clear e9
  have hAB := HAB.out
  have hZA := HZA.out
  have HBO := Lib.hid hbo
  clear hbo hv hlX hbw
  go_wp2_with fail
  have hb6 : Below w.heap.size w wk := hb5.trans (hL.bel.mono (by omega))
  have HL9 := Lib.hid hL
  have gA3 := hL.blk
  have gB5 := (hL.rest B (by omega)).trans gB4
  have hsk := hL.size
  have lZ' : Z < w.heap.size := by rw [hB]; exact lZ
  have lD' : D < w.heap.size := by rw [hB]; exact lD
  have lBk : B < wk.heap.size := by omega
  have lAk : A < wk.heap.size := by omega
  have lZk : Z < wk.heap.size := by omega
  have lDk : D < wk.heap.size := by omega
  have d1 : wk.cell? ⟨D, 1, none⟩ = some (.slice (some ⟨Z, 0, none⟩) d.zs.length cap) := (cell_of_block (blk_on cb1 hb6) 1).trans rfl
  have b1 : wk.cell? ⟨B, 1, none⟩ = some (.int .i64 j) := (cell_of_block gB5 1).trans rfl
  have x0 : wk.cell? ⟨A, 0, none⟩ = some (.int .i64 (grow d.size z b).st) := (cell_of_block gA3 0).trans rfl
  have x1 : wk.cell? ⟨A, 1, none⟩ = some (.slice a3 L.length c3) := (cell_of_block gA3 1).trans rfl
  have x2 : wk.cell? ⟨A, 2, none⟩ = some (.int .i64 z.lasts) := (cell_of_block gA3 2).trans rfl
  have gd1 : ∀ w', Below wk.heap.size wk w' → w'.cell? ⟨D, 1, none⟩ = some (.slice (some ⟨Z, 0, none⟩) d.zs.length cap) := fun w' h => (h.cell (p := ⟨D, 1, none⟩) lDk).trans d1
  have gb1 : ∀ w', Below wk.heap.size wk w' → w'.cell? ⟨B, 1, none⟩ = some (.int .i64 j) := fun w' h => (h.cell (p := ⟨B, 1, none⟩) lBk).trans b1
  have gx0 : ∀ w', Below wk.heap.size wk w' → w'.cell? ⟨A, 0, none⟩ = some (.int .i64 (grow d.size z b).st) := fun w' h => (h.cell (p := ⟨A, 0, none⟩) lAk).trans x0
  have gx1 : ∀ w', Below wk.heap.size wk w' → w'.cell? ⟨A, 1, none⟩ = some (.slice a3 L.length c3) := fun w' h => (h.cell (p := ⟨A, 1, none⟩) lAk).trans x1
  have gx2 : ∀ w', Below wk.heap.size wk w' → w'.cell? ⟨A, 2, none⟩ = some (.int .i64 z.lasts) := fun w' h => (h.cell (p := ⟨A, 2, none⟩) lAk).trans x2
  have cz0 : wk.cell? ⟨Z, j * 3, none⟩ = some (.int .i64 z.st) := (hb6.cell (p := ⟨Z, j * 3, none⟩) lZ').trans HQ0.out
  have cz1 : wk.cell? ⟨Z, j * 3 + 1, none⟩ = some (.slice a2 z.data.length c2) := (hb6.cell (p := ⟨Z, j * 3 + 1, none⟩) lZ').trans HQ1.out
  have cz2 : wk.cell? ⟨Z, j * 3 + 2, none⟩ = some (.int .i64 z.lasts) := (hb6.cell (p := ⟨Z, j * 3 + 2, none⟩) lZ').trans HQ2.out
  have fz0 : wk.frozen? ⟨Z, j * 3, none⟩ = false := (hb6.frozen (p := ⟨Z, j * 3, none⟩) lZ').trans (HFZ.out (j * 3))
  have fz1 : wk.frozen? ⟨Z, j * 3 + 1, none⟩ = false := (hb6.frozen (p := ⟨Z, j * 3 + 1, none⟩) lZ').trans (HFZ.out (j * 3 + 1))
  have fz2 : wk.frozen? ⟨Z, j * 3 + 2, none⟩ = false := (hb6.frozen (p := ⟨Z, j * 3 + 2, none⟩) lZ').trans (HFZ.out (j * 3 + 2))
  clear d1 b1 x0 x1 x2 gA2 gB4 gB5 hone hL hsk
  refine wp_region_noPanic ?_
  refine wp_region_till (T := Below wk.heap.size wk) 8 (by kernel_rfl) ?_ (fun hTill => ?_)
  · exact below_self_drew wk
  refine takeM 0 (v := ?_) rfl (by kernel_rfl) (by kernel_rfl) (by kernel_rfl) (by kernel_rfl) (fun _ _ _ h => h) (Or.inl ⟨by rfl, ?_⟩) (by assumption) (fun hTill => ?_)
  rotate_left
  · (intro w hSw; go_simp; try with_reducible rfl)
  (try simp only [Act.put, List.setIfInBounds_toArray, List.set_cons_zero, List.set_cons_succ])
  refine takeM 1 (v := ?_) rfl (by kernel_rfl) (by kernel_rfl) (by kernel_rfl) (by kernel_rfl) (fun _ _ _ h => h) (Or.inl ⟨by rfl, ?_⟩) (by assumption) (fun hTill => ?_)
  rotate_left
  · (intro w hSw; go_simp; try with_reducible rfl)
  (try simp only [Act.put, List.setIfInBounds_toArray, List.set_cons_zero, List.set_cons_succ])
  refine takeM 2 (v := ?_) rfl (by kernel_rfl) (by kernel_rfl) (by kernel_rfl) (by kernel_rfl) (fun _ _ _ h => h) (Or.inl ⟨by rfl, ?_⟩) (by assumption) (fun hTill => ?_)
  rotate_left
  · (intro w hSw; go_simp; try with_reducible rfl)
  (try simp only [Act.put, List.setIfInBounds_toArray, List.set_cons_zero, List.set_cons_succ])
  refine takeT 3 (v := ?_) rfl (by kernel_rfl) (by kernel_rfl) (by kernel_rfl) (by kernel_rfl) (by kernel_rfl) (by kernel_rfl) (fun _ _ _ h => h) (Or.inl ⟨by rfl, ?_⟩) (by assumption) (fun hTill => ?_)
  rotate_left
  · (intro w hSw; go_simp; try with_reducible rfl)
  (try simp only [Act.put, List.setIfInBounds_toArray, List.set_cons_zero, List.set_cons_succ])
  refine takeM 4 (v := ?_) rfl (by kernel_rfl) (by kernel_rfl) (by kernel_rfl) (by kernel_rfl) (fun _ _ _ h => h) (Or.inl ⟨by rfl, ?_⟩) (by assumption) (fun hTill => ?_)
  rotate_left
  · (intro w hSw; go_simp; try with_reducible rfl)
  (try simp only [Act.put, List.setIfInBounds_toArray, List.set_cons_zero, List.set_cons_succ])
  refine takeT 5 (v := ?_) rfl (by kernel_rfl) (by kernel_rfl) (by kernel_rfl) (by kernel_rfl) (by kernel_rfl) (by kernel_rfl) (fun _ _ _ h => h) (Or.inl ⟨by rfl, ?_⟩) (by assumption) (fun hTill => ?_)
  rotate_left
  · (intro w hSw; go_simp; try with_reducible rfl)
  (try simp only [Act.put, List.setIfInBounds_toArray, List.set_cons_zero, List.set_cons_succ])
  refine takeT 6 (v := ?_) rfl (by kernel_rfl) (by kernel_rfl) (by kernel_rfl) (by kernel_rfl) (by kernel_rfl) (by kernel_rfl) (fun _ _ _ h => h) (Or.inl ⟨by rfl, ?_⟩) (by assumption) (fun hTill => ?_)
  rotate_left
  · (intro w hSw; go_simp; try with_reducible rfl)
  (try simp only [Act.put, List.setIfInBounds_toArray, List.set_cons_zero, List.set_cons_succ])
  refine takeM 7 (v := ?_) rfl (by kernel_rfl) (by kernel_rfl) (by kernel_rfl) (by kernel_rfl) (fun _ _ _ h => h) (Or.inl ⟨by rfl, ?_⟩) (by assumption) (fun hTill => ?_)
  rotate_left
  · (intro w hSw; go_simp; try with_reducible rfl)
  (try simp only [Act.put, List.setIfInBounds_toArray, List.set_cons_zero, List.set_cons_succ])
  refine stepM 8 rfl (by kernel_rfl) (fun K hK => ?_)
  go_simp
  refine hK.out _ _ ?_ (fun hTill => ?_)
  · exact till_over (by kernel_rfl)
  clear hK K
  (try simp only [Act.put, List.setIfInBounds_toArray, List.set_cons_zero, List.set_cons_succ])
  refine doneM (by kernel_rfl) ?_ _
  refine NoPanic.normal ?_
  clear gd1 gb1 gx0 gx1 gx2 cz0 cz1 cz2 fz0 fz1 fz2
  go_wp2
  go_ret
  have hb7 : Below w.heap.size w wk.drew := hb6.drew
  have O7 := (HOA.out.below hb7).zone hXZ j (by omega) (grow d.size z b) (.slice a3 L.length c3) (show BtO X wk.drew _ (z.data ++ b) from by rw [HLL.out]; exact ((HBO.out.away ((Away.laid HL9.out (by simp)).trans (Away.of_below (Below.refl _ wk).drew))).less (fun y hy => List.mem_cons_of_mem _ hy)))
  have hzz : base ≤ Z := hbZ
  exact ⟨rfl, (hb7.mono (by have := block_lt HOA.out.blk; omega)).trans (below_three _ hzz), (Away.of_below hb7).trans (away_three _ _ (by simp)), _, _, _, _, _, O7⟩
set_option linter.unusedSimpArgs false in
set_option maxRecDepth 100000 in
set_option maxHeartbeats 4000000 in
theorem zdo_append0 (base : Nat) (X : List Nat) (D Z cap : Nat) (vs : List Value) (r0 r1 f0 f1 : Value) (d : Dv) (w : World) (OA : OwnAt base X D Z cap vs r0 r1 f0 f1 d w) (hXZ : Z ∈ X) (hXs : ∀ x ∈ X, x < w.heap.size) (hbD : base ≤ D) (j : Nat) (z : Zn) (hz : d.zs[j]? = some z) (ab : Option Addr) (nb cb : Nat) (b : List UInt8) (hb : Bt w (.slice ab nb cb) b) (had : ∃ ad, ab = some ad) (hok : zoneOk d.size z = true) (hne : 0 < b.length) (hroom : (b.length : Int) ≤ d.size - (z.data.length : Int)) (hsz : d.size ≤ 65536) (hst : z.st = 0) (hop : ¬ 4 ≤ openN d.zs) :
    Calls Try.prog 49 #[.agg #[.int .i64 1, .int .i64 j, .slice ab nb cb], .pointer (some ⟨D, 0, none⟩)] w (DoPost base X D Z cap (setZ d j (grow d.size z b)) 0 w) := by
  have hj : j < d.zs.length := (List.getElem?_eq_some_iff.1 hz).1
  have hjv : j < vs.length := by rw [OA.len]; exact hj
  have hbt := OA.dat j z vs[j] hz (List.getElem?_eq_getElem hjv)
  obtain ⟨q0, q1, q2⟩ := zcs_at d.zs vs OA.len j z vs[j] hz (List.getElem?_eq_getElem hjv)
  obtain ⟨a2, c2, hvj⟩ := hbt.open
  rw [hvj] at hbt q1
  have hbZ : base ≤ Z := (OA.row.lt Z rfl).1
  have HQ0 := Lib.hid ((OA.row.cellAt (j * 3) (by omega)).trans q0)
  have HQ1 := Lib.hid ((OA.row.cellAt (j * 3 + 1) (by omega)).trans q1)
  have HQ2 := Lib.hid ((OA.row.cellAt (j * 3 + 2) (by omega)).trans q2)
  have HFZ := Lib.hid (OA.row.frozenAt)
  have HOA := Lib.hid OA
  have HBT := Lib.hid hbt
  have HZ := Lib.hid hz
  have HXS := Lib.hid hXs
  have lD := block_lt OA.blk
  have lZ := (OA.row.lt Z rfl).2
  have cb1 := OA.blk
  have i1 : (0 : Int) ≤ (j : Int) := by omega
  have i2 : (j : Int) < (d.zs.length : Int) := by omega
  have i3 : decide ((j : Int) < 0) = false := decide_eq_false (by omega)
  have i4 : decide ((d.zs.length : Int) ≤ (j : Int)) = false := decide_eq_false (by omega)
  have i5 : decide (d.zs.length ≤ j) = false := decide_eq_false (by omega)
  clear OA hbt hz hvj q0 q1 q2 hXs hjv hj
  have es : (z.st == 0) = true := by rw [hst]; rfl
  have HST := Lib.hid hst
  clear hst
  go_enter Try.func49, Try.ntmps49
  go_wp2_with fail
  refine code_world (fun wa e0 => ?_)
  obtain ⟨gB, hba, _⟩ := one_alloc e0
  clear e0
  obtain ⟨B, hB⟩ : ∃ B, w.heap.size = B := ⟨_, rfl⟩
  rw [hB] at gB lD lZ ⊢
  have b0 : wa.cell? ⟨B, 0, none⟩ = some (.int .i64 1) := (cell_of_block gB 0).trans rfl
  have b1 : wa.cell? ⟨B, 1, none⟩ = some (.int .i64 j) := (cell_of_block gB 1).trans rfl
  have d1 : wa.cell? ⟨D, 1, none⟩ = some (.slice (some ⟨Z, 0, none⟩) d.zs.length cap) := (cell_of_block (blk_on cb1 hba) 1).trans rfl
  go_quiet (fail)
  go_wp2_with fail
  refine code_world (fun wc ec => ?_)
  have hbc : Below wa.heap.size wa wc := by rw [ec]; exact below_drewN (Below.refl _ _) _
  clear ec
  have hb2 : Below w.heap.size w wc := hba.trans (hbc.mono hba.size)
  have gB2 := blk_on gB hbc
  have lB2 := block_lt gB2
  have hs2 := hb2.size
  clear b0 b1 d1 hba hbc gB i3 i4 i5
  have d1 : wc.cell? ⟨D, 1, none⟩ = some (.slice (some ⟨Z, 0, none⟩) d.zs.length cap) := (cell_of_block (blk_on cb1 hb2) 1).trans rfl
  have b1 : wc.cell? ⟨B, 1, none⟩ = some (.int .i64 j) := (cell_of_block gB2 1).trans rfl
  have lZ' : Z < w.heap.size := by rw [hB]; exact lZ
  have cz0 : wc.cell? ⟨Z, j * 3, none⟩ = some (.int .i64 z.st) := (hb2.cell (p := ⟨Z, j * 3, none⟩) lZ').trans HQ0.out
  have cz1 : wc.cell? ⟨Z, j * 3 + 1, none⟩ = some (.slice a2 z.data.length c2) := (hb2.cell (p := ⟨Z, j * 3 + 1, none⟩) lZ').trans HQ1.out
  have cz2 : wc.cell? ⟨Z, j * 3 + 2, none⟩ = some (.int .i64 z.lasts) := (hb2.cell (p := ⟨Z, j * 3 + 2, none⟩) lZ').trans HQ2.out
  have lZ2 : Z < wc.heap.size := by omega
  have lD2 : D < wc.heap.size := by omega
  have gd1 : ∀ w', Below wc.heap.size wc w' → w'.cell? ⟨D, 1, none⟩ = some (.slice (some ⟨Z, 0, none⟩) d.zs.length cap) := fun w' h => (h.cell (p := ⟨D, 1, none⟩) lD2).trans d1
  have gb1 : ∀ w', Below wc.heap.size wc w' → w'.cell? ⟨B, 1, none⟩ = some (.int .i64 j) := fun w' h => (h.cell (p := ⟨B, 1, none⟩) lB2).trans b1
  have gz0 : ∀ w', Below wc.heap.size wc w' → w'.cell? ⟨Z, j * 3, none⟩ = some (.int .i64 z.st) := fun w' h => (h.cell (p := ⟨Z, j * 3, none⟩) lZ2).trans cz0
  have gz1 : ∀ w', Below wc.heap.size wc w' → w'.cell? ⟨Z, j * 3 + 1, none⟩ = some (.slice a2 z.data.length c2) := fun w' h => (h.cell (p := ⟨Z, j * 3 + 1, none⟩) lZ2).trans cz1
  have gz2 : ∀ w', Below wc.heap.size wc w' → w'.cell? ⟨Z, j * 3 + 2, none⟩ = some (.int .i64 z.lasts) := fun w' h => (h.cell (p := ⟨Z, j * 3 + 2, none⟩) lZ2).trans cz2
  clear d1 b1 cz0 cz1 cz2
  refine wp_region_noPanic ?_
  refine wp_region_till (T := Below wc.heap.size wc) 9 (by kernel_rfl) ?_ (fun hTill => ?_)
  · exact below_self_drew wc
  refine takeM 0 (v := ?_) rfl (by kernel_rfl) (by kernel_rfl) (by kernel_rfl) (by kernel_rfl) (fun _ _ _ h => h) (Or.inl ⟨by rfl, ?_⟩) (by assumption) (fun hTill => ?_)
  rotate_left
  · (intro w hSw; go_simp; try with_reducible rfl)
  (try simp only [Act.put, List.setIfInBounds_toArray, List.set_cons_zero, List.set_cons_succ])
  refine takeM 1 (v := ?_) rfl (by kernel_rfl) (by kernel_rfl) (by kernel_rfl) (by kernel_rfl) (fun _ _ _ h => h) (Or.inl ⟨by rfl, ?_⟩) (by assumption) (fun hTill => ?_)
  rotate_left
  · (intro w hSw; go_simp; try with_reducible rfl)
  (try simp only [Act.put, List.setIfInBounds_toArray, List.set_cons_zero, List.set_cons_succ])
  refine takeM 2 (v := ?_) rfl (by kernel_rfl) (by kernel_rfl) (by kernel_rfl) (by kernel_rfl) (fun _ _ _ h => h) (Or.inl ⟨by rfl, ?_⟩) (by assumption) (fun hTill => ?_)
  rotate_left
  · (intro w hSw; go_simp; try with_reducible rfl)
  (try simp only [Act.put, List.setIfInBounds_toArray, List.set_cons_zero, List.set_cons_succ])
  refine takeT 3 (v := ?_) rfl (by kernel_rfl) (by kernel_rfl) (by kernel_rfl) (by kernel_rfl) (by kernel_rfl) (by kernel_rfl) (fun _ _ _ h => h) (Or.inl ⟨by rfl, ?_⟩) (by assumption) (fun hTill => ?_)
  rotate_left
  · (intro w hSw; go_simp; try with_reducible rfl)
  (try simp only [Act.put, List.setIfInBounds_toArray, List.set_cons_zero, List.set_cons_succ])
  refine takeM 4 (v := ?_) rfl (by kernel_rfl) (by kernel_rfl) (by kernel_rfl) (by kernel_rfl) (fun _ _ _ h => h) (Or.inl ⟨by rfl, ?_⟩) (by assumption) (fun hTill => ?_)
  rotate_left
  · (intro w hSw; go_simp; try with_reducible rfl)
  (try simp only [Act.put, List.setIfInBounds_toArray, List.set_cons_zero, List.set_cons_succ])
  refine takeT 5 (v := ?_) rfl (by kernel_rfl) (by kernel_rfl) (by kernel_rfl) (by kernel_rfl) (by kernel_rfl) (by kernel_rfl) (fun _ _ _ h => h) (Or.inl ⟨by rfl, ?_⟩) (by assumption) (fun hTill => ?_)
  rotate_left
  · (intro w hSw; go_simp; try with_reducible rfl)
  (try simp only [Act.put, List.setIfInBounds_toArray, List.set_cons_zero, List.set_cons_succ])
  refine takeM 6 (v := ?_) rfl (by kernel_rfl) (by kernel_rfl) (by kernel_rfl) (by kernel_rfl) (fun _ _ _ h => h) (Or.inl ⟨by rfl, ?_⟩) (by assumption) (fun hTill => ?_)
  rotate_left
  · (intro w hSw; go_simp; try with_reducible rfl)
  (try simp only [Act.put, List.setIfInBounds_toArray, List.set_cons_zero, List.set_cons_succ])
  refine takeT 7 (v := ?_) rfl (by kernel_rfl) (by kernel_rfl) (by kernel_rfl) (by kernel_rfl) (by kernel_rfl) (by kernel_rfl) (fun _ _ _ h => h) (Or.inl ⟨by rfl, ?_⟩) (by assumption) (fun hTill => ?_)
  rotate_left
  · (intro w hSw; go_simp; try with_reducible rfl)
  (try simp only [Act.put, List.setIfInBounds_toArray, List.set_cons_zero, List.set_cons_succ])
  refine stepM 8 rfl (by kernel_rfl) (fun K hK => ?_)
  go_simp
  refine hK.out _ _ ?_ (fun hTill => ?_)
  · exact fun _ => ((Below.refl _ wc).drew).alloc (Nat.le_refl _) _
  clear hK K
  (try simp only [Act.put, List.setIfInBounds_toArray, List.set_cons_zero, List.set_cons_succ])
  refine stepM 9 rfl (by kernel_rfl) (fun K hK => ?_)
  go_simp
  refine hK.out _ _ ?_ (fun hTill => ?_)
  · exact till_over (by kernel_rfl)
  clear hK K
  (try simp only [Act.put, List.setIfInBounds_toArray, List.set_cons_zero, List.set_cons_succ])
  refine doneM (by kernel_rfl) ?_ _
  refine NoPanic.normal ?_
  clear gd1 gb1 gz0 gz1 gz2
  generalize e0 : (World.alloc wc _).drew = wd
  obtain ⟨gA, hbd, hsd⟩ := alloc_drew e0
  clear e0
  have hs3 : wd.heap.size = wc.heap.size + 1 := hsd
  have hb3 : Below w.heap.size w wd := hb2.trans (hbd.mono hs2)
  obtain ⟨A, hA⟩ : ∃ A, wc.heap.size = A := ⟨_, rfl⟩
  have gB3 := blk_on gB2 hbd
  have gA := (show wd.heap[A]? = _ from hA ▸ gA)
  have b0 : wd.cell? ⟨B, 0, none⟩ = some (.int .i64 1) := (cell_of_block gB3 0).trans rfl
  have a0 : wd.cell? ⟨A, 0, none⟩ = some (.int .i64 z.st) := (cell_of_block gA 0).trans rfl
  have a1 : wd.cell? ⟨A, 1, none⟩ = some (.slice a2 z.data.length c2) := (cell_of_block gA 1).trans rfl
  have a2' : wd.cell? ⟨A, 2, none⟩ = some (.int .i64 z.lasts) := (cell_of_block gA 2).trans rfl
  rw [hA] at lB2 lZ2 lD2 hs3 hs2 ⊢
  replace hs3 : A + 1 ≤ wd.heap.size := by omega
  clear gB2 hbd hsd
  have hDv := ((HOA.out.below hb3).out (Y := []) (by intro y hy; cases hy) (by intro h; cases h)).is
  have rD := range_of_block (blk_on cb1 hb3)
  have hi10 : (Try.prog.info? 27).map (·.size) = some 10 := by kernel_rfl
  go_wp2_with (refine wpList_load_at (by rfl) 27 (.tmp 62) rfl D 0 (by rfl) (dcs d (.slice (some ⟨Z, 0, none⟩) d.zs.length cap) r0 r1 f0 f1) _ rD Try.underlying27 rfl hi10 ?_)
  refine (dopen_any d _ _ hDv).mono ?_
  clear hDv rD hi10 b0 a0 a1 a2'
  rintro e wd ⟨rfl, hbe⟩
  have gA := blk_on gA hbe
  have gB3 := blk_on gB3 hbe
  have hb3 := hb3.trans (hbe.mono hb3.size)
  have hs3 : A + 1 ≤ wd.heap.size := by have := hbe.size; omega
  clear hbe
  have e3 : decide (4 ≤ ((openN d.zs : Nat) : Int)) = false := decide_eq_false (by omega)
  have e4 : decide (4 ≤ openN d.zs) = false := decide_eq_false (by omega)
  have HAD := Lib.hid had
  have HOK := Lib.hid hok
  have HTK := Lib.hid (show z.st = 0 ∨ z.st = 1 from by have := HST.out; omega)
  have HNE := Lib.hid hne
  have HRM := Lib.hid hroom
  have HSZ := Lib.hid hsz
  have HBB := Lib.hid hb
  have hAB : A ≠ B ∧ B < wd.heap.size := by omega
  have hZA : Z < wd.heap.size ∧ D < wd.heap.size ∧ A < wd.heap.size := by omega
  have HLX := Lib.hid (show ∀ x ∈ A :: X, x < wd.heap.size from by
    intro x hx
    rcases List.mem_cons.1 hx with rfl | hx
    · omega
    · have := HXS.out x hx
      omega)
  obtain ⟨L, hLL⟩ : ∃ L, z.data ++ b = L := ⟨_, rfl⟩
  have HLB := Lib.hid (show L.length ≤ 140737488355328 from by rw [← hLL, List.length_append]; omega)
  have HLL := Lib.hid hLL
  clear hLL
  clear hop had hok hne hroom hsz hb hs3
  go_wp2_with fail
  clear e3 e4
  have ga0 : ∀ w', Below wd.heap.size wd w' → w'.cell? ⟨A, 0, none⟩ = some (.int .i64 z.st) := fun w' h => (h.cell (p := ⟨A, 0, none⟩) (block_lt gA)).trans ((cell_of_block gA 0).trans rfl)
  have ga1 : ∀ w', Below wd.heap.size wd w' → w'.cell? ⟨A, 1, none⟩ = some (.slice a2 z.data.length c2) := fun w' h => (h.cell (p := ⟨A, 1, none⟩) (block_lt gA)).trans ((cell_of_block gA 1).trans rfl)
  have ga2 : ∀ w', Below wd.heap.size wd w' → w'.cell? ⟨A, 2, none⟩ = some (.int .i64 z.lasts) := fun w' h => (h.cell (p := ⟨A, 2, none⟩) (block_lt gA)).trans ((cell_of_block gA 2).trans rfl)
  have gb2 : ∀ w', Below wd.heap.size wd w' → w'.cell? ⟨B, 2, none⟩ = some (.slice ab nb cb) := fun w' h => (h.cell (p := ⟨B, 2, none⟩) (block_lt gB3)).trans ((cell_of_block gB3 2).trans rfl)
  have gDk := blk_on cb1 hb3
  have gd0 : ∀ w', Below wd.heap.size wd w' → w'.cell? ⟨D, 0, none⟩ = some (.int .i64 d.size) := fun w' h => (h.cell (p := ⟨D, 0, none⟩) (block_lt gDk)).trans ((cell_of_block gDk 0).trans rfl)
  have GB3 := Lib.hid gB3
  have GA := Lib.hid gA
  have hbb3 := hb3.drew
  have HAB := Lib.hid hAB
  have HZA := Lib.hid hZA
  have hbt9 := HBT.out.1.below hbb3
  have hbB9 := HBB.out.below hbb3
  clear gDk gB3 gA hAB hZA
  refine wp_region_noPanic ?_
  refine wp_region_till (T := Below wd.heap.size wd) 11 (by kernel_rfl) ?_ (fun hTill => ?_)
  · exact below_self_drew wd
  refine takeT 0 (v := ?_) rfl (by kernel_rfl) (by kernel_rfl) (by kernel_rfl) (by kernel_rfl) (by kernel_rfl) (by kernel_rfl) (fun _ _ _ h => h) (Or.inl ⟨by rfl, ?_⟩) (by assumption) (fun hTill => ?_)
  rotate_left
  · (intro w hSw; go_simp; try with_reducible rfl)
  (try simp only [Act.put, List.setIfInBounds_toArray, List.set_cons_zero, List.set_cons_succ])
  refine takeM 1 (v := ?_) rfl (by kernel_rfl) (by kernel_rfl) (by kernel_rfl) (by kernel_rfl) (fun _ _ _ h => h) (Or.inl ⟨by rfl, ?_⟩) (by assumption) (fun hTill => ?_)
  rotate_left
  · (intro w hSw; go_simp; try with_reducible rfl)
  (try simp only [Act.put, List.setIfInBounds_toArray, List.set_cons_zero, List.set_cons_succ])
  refine takeM 2 (v := ?_) rfl (by kernel_rfl) (by kernel_rfl) (by kernel_rfl) (by kernel_rfl) (fun _ _ _ h => h) (Or.inl ⟨by rfl, ?_⟩) (by assumption) (fun hTill => ?_)
  rotate_left
  · (intro w hSw; go_simp; try with_reducible rfl)
  (try simp only [Act.put, List.setIfInBounds_toArray, List.set_cons_zero, List.set_cons_succ])
  refine takeM 3 (v := ?_) rfl (by kernel_rfl) (by kernel_rfl) (by kernel_rfl) (by kernel_rfl) (fun _ _ _ h => h) (Or.inl ⟨by rfl, ?_⟩) (by assumption) (fun hTill => ?_)
  rotate_left
  · (intro w hSw; go_simp; try with_reducible rfl)
  (try simp only [Act.put, List.setIfInBounds_toArray, List.set_cons_zero, List.set_cons_succ])
  refine takeT 4 (v := ?_) rfl (by kernel_rfl) (by kernel_rfl) (by kernel_rfl) (by kernel_rfl) (by kernel_rfl) (by kernel_rfl) (fun _ _ _ h => h) (Or.inl ⟨by rfl, ?_⟩) (by assumption) (fun hTill => ?_)
  rotate_left
  · (intro w hSw; go_simp; try with_reducible rfl)
  (try simp only [Act.put, List.setIfInBounds_toArray, List.set_cons_zero, List.set_cons_succ])
  refine takeM 5 (v := ?_) rfl (by kernel_rfl) (by kernel_rfl) (by kernel_rfl) (by kernel_rfl) (fun _ _ _ h => h) (Or.inl ⟨by rfl, ?_⟩) (by assumption) (fun hTill => ?_)
  rotate_left
  · (intro w hSw; go_simp; try with_reducible rfl)
  (try simp only [Act.put, List.setIfInBounds_toArray, List.set_cons_zero, List.set_cons_succ])
  refine takeT 6 (v := ?_) rfl (by kernel_rfl) (by kernel_rfl) (by kernel_rfl) (by kernel_rfl) (by kernel_rfl) (by kernel_rfl) (fun _ _ _ h => h) (Or.inl ⟨by rfl, ?_⟩) (by assumption) (fun hTill => ?_)
  rotate_left
  · (intro w hSw; go_simp; try with_reducible rfl)
  (try simp only [Act.put, List.setIfInBounds_toArray, List.set_cons_zero, List.set_cons_succ])
  refine stepM 7 rfl (by kernel_rfl) (fun K hK => ?_)
  (go_simp; go_at_call 69; obtain ⟨ad, rfl⟩ := HAD.out; refine (zappend_any z d.size HOK.out HTK.out a2 z.data.length c2 ad nb cb b HNE.out HRM.out HSZ.out wd.drew hbt9 hbB9).mono ?_; rintro e wf ⟨⟨v, rfl, hv⟩, hbf⟩; have hlX : ∀ x ∈ A :: X, x < wd.heap.size := HLX.out; rw [HLL.out] at hv; obtain ⟨a3, c3, rfl, _⟩ := own_bt hv HLB.out; have hbo : BtO (A :: X) wf (.slice a3 L.length c3) L := BtO.own hv HLB.out hlX; have gA2 := blk_on (w := wd.drew) GA.out hbf; have gB4 := blk_on (w := wd.drew) GB3.out hbf; have hb5 := hbb3.trans (hbf.mono hbb3.size); have hszf : wd.heap.size ≤ wf.heap.size := hbf.size; have hbw : Below wd.heap.size wd wf := (Below.refl _ wd).drew.trans hbf; have hone : (#[.int .i64 (grow d.size z b).st, .slice a3 L.length c3, .int .i64 z.lasts] : Array Value).all (·.oneCell') = true := (by simp; exact ⟨rfl, rfl, rfl⟩); unfold zv)
  refine hK.out _ _ ?_ (fun hTill => ?_)
  · exact fun _ => hbw
  clear hK K
  (try simp only [Act.put, List.setIfInBounds_toArray, List.set_cons_zero, List.set_cons_succ])
  refine takeM 8 (v := ?_) rfl (by kernel_rfl) (by kernel_rfl) (by kernel_rfl) (by kernel_rfl) (fun _ _ _ h => h) (Or.inl ⟨by rfl, ?_⟩) (by assumption) (fun hTill => ?_)
  rotate_left
  · (intro w hSw; go_simp; try with_reducible rfl)
  (try simp only [Act.put, List.setIfInBounds_toArray, List.set_cons_zero, List.set_cons_succ])
  refine takeM 9 (v := ?_) rfl (by kernel_rfl) (by kernel_rfl) (by kernel_rfl) (by kernel_rfl) (fun _ _ _ h => h) (Or.inl ⟨by rfl, ?_⟩) (by assumption) (fun hTill => ?_)
  rotate_left
  · (intro w hSw; go_simp; try with_reducible rfl)
  (try simp only [Act.put, List.setIfInBounds_toArray, List.set_cons_zero, List.set_cons_succ])
  refine takeM 10 (v := ?_) rfl (by kernel_rfl) (by kernel_rfl) (by kernel_rfl) (by kernel_rfl) (fun _ _ _ h => h) (Or.inl ⟨by rfl, ?_⟩) (by assumption) (fun hTill => ?_)
  rotate_left
  · (intro w hSw; go_simp; try with_reducible rfl)
  (try simp only [Act.put, List.setIfInBounds_toArray, List.set_cons_zero, List.set_cons_succ])
  refine stepM 11 rfl (by kernel_rfl) (fun K hK => ?_)
  (rw [if_pos (by rfl)]; refine wp_store_row 52 _ _ (by rfl) A (#[.int .i64 (grow d.size z b).st, .slice a3 L.length c3, .int .i64 z.lasts]) (by rfl) (by rfl) 52 _ gA2 (by kernel_rfl) (by rfl) hone ?_)
  refine hK.out _ _ ?_ (fun hTill => ?_)
  · exact till_over (by kernel_rfl)
  clear hK K
  (try simp only [Act.put, List.setIfInBounds_toArray, List.set_cons_zero, List.set_cons_succ])
  refine takeM 12 (v := ?_) rfl (by kernel_rfl) (by kernel_rfl) (by kernel_rfl) (by kernel_rfl) (fun _ _ _ h => h) (Or.inl ⟨by rfl, ?_⟩) (by assumption) (fun hTill => ?_)
  rotate_left
  · (intro w hSw; go_simp; try with_reducible rfl)
  (try simp only [Act.put, List.setIfInBounds_toArray, List.set_cons_zero, List.set_cons_succ])
  refine doneM (by kernel_rfl) ?_ _
  refine NoPanic.normal ?_
  clear ga0 ga1 ga2 gb2 gd0
  generalize e9 : World.setRow wf A _ = wk
  have hL : Laid wf A #[.int .i64 (grow d.size z b).st, .slice a3 L.length c3, .int .i64 z.lasts] 52 wk := e9 ▸ laid_setRow gA2
  clear e9
  have hAB := HAB.out
  have hZA := HZA.out
  have HBO := Lib.hid hbo
  clear hbo hv hlX hbw
  go_wp2_with fail
  have hb6 : Below w.heap.size w wk := hb5.trans (hL.bel.mono (by omega))
  have HL9 := Lib.hid hL
  have gA3 := hL.blk
  have gB5 := (hL.rest B (by omega)).trans gB4
  have hsk := hL.size
  have lZ' : Z < w.heap.size := by rw [hB]; exact lZ
  have lD' : D < w.heap.size := by rw [hB]; exact lD
  have lBk : B < wk.heap.size := by omega
  have lAk : A < wk.heap.size := by omega
  have lZk : Z < wk.heap.size := by omega
  have lDk : D < wk.heap.size := by omega
  have d1 : wk.cell? ⟨D, 1, none⟩ = some (.slice (some ⟨Z, 0, none⟩) d.zs.length cap) := (cell_of_block (blk_on cb1 hb6) 1).trans rfl
  have b1 : wk.cell? ⟨B, 1, none⟩ = some (.int .i64 j) := (cell_of_block gB5 1).trans rfl
  have x0 : wk.cell? ⟨A, 0, none⟩ = some (.int .i64 (grow d.size z b).st) := (cell_of_block gA3 0).trans rfl
  have x1 : wk.cell? ⟨A, 1, none⟩ = some (.slice a3 L.length c3) := (cell_of_block gA3 1).trans rfl
  have x2 : wk.cell? ⟨A, 2, none⟩ = some (.int .i64 z.lasts) := (cell_of_block gA3 2).trans rfl
  have gd1 : ∀ w', Below wk.heap.size wk w' → w'.cell? ⟨D, 1, none⟩ = some (.slice (some ⟨Z, 0, none⟩) d.zs.length cap) := fun w' h => (h.cell (p := ⟨D, 1, none⟩) lDk).trans d1
  have gb1 : ∀ w', Below wk.heap.size wk w' → w'.cell? ⟨B, 1, none⟩ = some (.int .i64 j) := fun w' h => (h.cell (p := ⟨B, 1, none⟩) lBk).trans b1
  have gx0 : ∀ w', Below wk.heap.size wk w' → w'.cell? ⟨A, 0, none⟩ = some (.int .i64 (grow d.size z b).st) := fun w' h => (h.cell (p := ⟨A, 0, none⟩) lAk).trans x0
  have gx1 : ∀ w', Below wk.heap.size wk w' → w'.cell? ⟨A, 1, none⟩ = some (.slice a3 L.length c3) := fun w' h => (h.cell (p := ⟨A, 1, none⟩) lAk).trans x1
  have gx2 : ∀ w', Below wk.heap.size wk w' → w'.cell? ⟨A, 2, none⟩ = some (.int .i64 z.lasts) := fun w' h => (h.cell (p := ⟨A, 2, none⟩) lAk).trans x2
  have cz0 : wk.cell? ⟨Z, j * 3, none⟩ = some (.int .i64 z.st) := (hb6.cell (p := ⟨Z, j * 3, none⟩) lZ').trans HQ0.out
  have cz1 : wk.cell? ⟨Z, j * 3 + 1, none⟩ = some (.slice a2 z.data.length c2) := (hb6.cell (p := ⟨Z, j * 3 + 1, none⟩) lZ').trans HQ1.out
  have cz2 : wk.cell? ⟨Z, j * 3 + 2, none⟩ = some (.int .i64 z.lasts) := (hb6.cell (p := ⟨Z, j * 3 + 2, none⟩) lZ').trans HQ2.out
  have fz0 : wk.frozen? ⟨Z, j * 3, none⟩ = false := (hb6.frozen (p := ⟨Z, j * 3, none⟩) lZ').trans (HFZ.out (j * 3))
  have fz1 : wk.frozen? ⟨Z, j * 3 + 1, none⟩ = false := (hb6.frozen (p := ⟨Z, j * 3 + 1, none⟩) lZ').trans (HFZ.out (j * 3 + 1))
  have fz2 : wk.frozen? ⟨Z, j * 3 + 2, none⟩ = false := (hb6.frozen (p := ⟨Z, j * 3 + 2, none⟩) lZ').trans (HFZ.out (j * 3 + 2))
  clear d1 b1 x0 x1 x2 gA2 gB4 gB5 hone hL hsk
  refine wp_region_noPanic ?_
  refine wp_region_till (T := Below wk.heap.size wk) 8 (by kernel_rfl) ?_ (fun hTill => ?_)
  · exact below_self_drew wk
  refine takeM 0 (v := ?_) rfl (by kernel_rfl) (by kernel_rfl) (by kernel_rfl) (by kernel_rfl) (fun _ _ _ h => h) (Or.inl ⟨by rfl, ?_⟩) (by assumption) (fun hTill => ?_)
  rotate_left
  · (intro w hSw; go_simp; try with_reducible rfl)
  (try simp only [Act.put, List.setIfInBounds_toArray, List.set_cons_zero, List.set_cons_succ])
  refine takeM 1 (v := ?_) rfl (by kernel_rfl) (by kernel_rfl) (by kernel_rfl) (by kernel_rfl) (fun _ _ _ h => h) (Or.inl ⟨by rfl, ?_⟩) (by assumption) (fun hTill => ?_)
  rotate_left
  · (intro w hSw; go_simp; try with_reducible rfl)
  (try simp only [Act.put, List.setIfInBounds_toArray, List.set_cons_zero, List.set_cons_succ])
  refine takeM 2 (v := ?_) rfl (by kernel_rfl) (by kernel_rfl) (by kernel_rfl) (by kernel_rfl) (fun _ _ _ h => h) (Or.inl ⟨by rfl, ?_⟩) (by assumption) (fun hTill => ?_)
  rotate_left
  · (intro w hSw; go_simp; try with_reducible rfl)
  (try simp only [Act.put, List.setIfInBounds_toArray, List.set_cons_zero, List.set_cons_succ])
  refine takeT 3 (v := ?_) rfl (by kernel_rfl) (by kernel_rfl) (by kernel_rfl) (by kernel_rfl) (by kernel_rfl) (by kernel_rfl) (fun _ _ _ h => h) (Or.inl ⟨by rfl, ?_⟩) (by assumption) (fun hTill => ?_)
  rotate_left
  · (intro w hSw; go_simp; try with_reducible rfl)
  (try simp only [Act.put, List.setIfInBounds_toArray, List.set_cons_zero, List.set_cons_succ])
  refine takeM 4 (v := ?_) rfl (by kernel_rfl) (by kernel_rfl) (by kernel_rfl) (by kernel_rfl) (fun _ _ _ h => h) (Or.inl ⟨by rfl, ?_⟩) (by assumption) (fun hTill => ?_)
  rotate_left
  · (intro w hSw; go_simp; try with_reducible rfl)
  (try simp only [Act.put, List.setIfInBounds_toArray, List.set_cons_zero, List.set_cons_succ])
  refine takeT 5 (v := ?_) rfl (by kernel_rfl) (by kernel_rfl) (by kernel_rfl) (by kernel_rfl) (by kernel_rfl) (by kernel_rfl) (fun _ _ _ h => h) (Or.inl ⟨by rfl, ?_⟩) (by assumption) (fun hTill => ?_)
  rotate_left
  · (intro w hSw; go_simp; try with_reducible rfl)
  (try simp only [Act.put, List.setIfInBounds_toArray, List.set_cons_zero, List.set_cons_succ])
  refine takeT 6 (v := ?_) rfl (by kernel_rfl) (by kernel_rfl) (by kernel_rfl) (by kernel_rfl) (by kernel_rfl) (by kernel_rfl) (fun _ _ _ h => h) (Or.inl ⟨by rfl, ?_⟩) (by assumption) (fun hTill => ?_)
  rotate_left
  · (intro w hSw; go_simp; try with_reducible rfl)
  (try simp only [Act.put, List.setIfInBounds_toArray, List.set_cons_zero, List.set_cons_succ])
  refine takeM 7 (v := ?_) rfl (by kernel_rfl) (by kernel_rfl) (by kernel_rfl) (by kernel_rfl) (fun _ _ _ h => h) (Or.inl ⟨by rfl, ?_⟩) (by assumption) (fun hTill => ?_)
  rotate_left
  · (intro w hSw; go_simp; try with_reducible rfl)
  (try simp only [Act.put, List.setIfInBounds_toArray, List.set_cons_zero, List.set_cons_succ])
  refine stepM 8 rfl (by kernel_rfl) (fun K hK => ?_)
  go_simp
  refine hK.out _ _ ?_ (fun hTill => ?_)
  · exact till_over (by kernel_rfl)
  clear hK K
  (try simp only [Act.put, List.setIfInBounds_toArray, List.set_cons_zero, List.set_cons_succ])
  refine doneM (by kernel_rfl) ?_ _
  refine NoPanic.normal ?_
  clear gd1 gb1 gx0 gx1 gx2 cz0 cz1 cz2 fz0 fz1 fz2
  go_wp2
  go_ret
  have hb7 : Below w.heap.size w wk.drew := hb6.drew
  have O7 := (HOA.out.below hb7).zone hXZ j (by omega) (grow d.size z b) (.slice a3 L.length c3) (show BtO X wk.drew _ (z.data ++ b) from by rw [HLL.out]; exact ((HBO.out.away ((Away.laid HL9.out (by simp)).trans (Away.of_below (Below.refl _ wk).drew))).less (fun y hy => List.mem_cons_of_mem _ hy)))
  have hzz : base ≤ Z := hbZ
  exact ⟨rfl, (hb7.mono (by have := block_lt HOA.out.blk; omega)).trans (below_three _ hzz), (Away.of_below hb7).trans (away_three _ _ (by simp)), _, _, _, _, _, O7⟩
set_option linter.unusedSimpArgs false in
set_option maxRecDepth 100000 in
set_option maxHeartbeats 4000000 in
theorem zdo_full (base : Nat) (X : List Nat) (D Z cap : Nat) (vs : List Value) (r0 r1 f0 f1 : Value) (d : Dv) (w : World) (OA : OwnAt base X D Z cap vs r0 r1 f0 f1 d w) (hXZ : Z ∈ X) (hXs : ∀ x ∈ X, x < w.heap.size) (hbD : base ≤ D) (j : Nat) (z : Zn) (hz : d.zs[j]? = some z) (ab : Option Addr) (nb cb : Nat) (hst : z.st = 0) (hop : 4 ≤ openN d.zs) :
    Calls Try.prog 49 #[.agg #[.int .i64 1, .int .i64 j, .slice ab nb cb], .pointer (some ⟨D, 0, none⟩)] w (DoPost base X D Z cap d 90 w) := by
  have hj : j < d.zs.length := (List.getElem?_eq_some_iff.1 hz).1
  have hjv : j < vs.length := by rw [OA.len]; exact hj
  have hbt := OA.dat j z vs[j] hz (List.getElem?_eq_getElem hjv)
  obtain ⟨q0, q1, q2⟩ := zcs_at d.zs vs OA.len j z vs[j] hz (List.getElem?_eq_getElem hjv)
  obtain ⟨a2, c2, hvj⟩ := hbt.open
  rw [hvj] at hbt q1
  have hbZ : base ≤ Z := (OA.row.lt Z rfl).1
  have HQ0 := Lib.hid ((OA.row.cellAt (j * 3) (by omega)).trans q0)
  have HQ1 := Lib.hid ((OA.row.cellAt (j * 3 + 1) (by omega)).trans q1)
  have HQ2 := Lib.hid ((OA.row.cellAt (j * 3 + 2) (by omega)).trans q2)
  have HFZ := Lib.hid (OA.row.frozenAt)
  have HOA := Lib.hid OA
  have HBT := Lib.hid hbt
  have HZ := Lib.hid hz
  have HXS := Lib.hid hXs
  have lD := block_lt OA.blk
  have lZ := (OA.row.lt Z rfl).2
  have cb1 := OA.blk
  have i1 : (0 : Int) ≤ (j : Int) := by omega
  have i2 : (j : Int) < (d.zs.length : Int) := by omega
  have i3 : decide ((j : Int) < 0) = false := decide_eq_false (by omega)
  have i4 : decide ((d.zs.length : Int) ≤ (j : Int)) = false := decide_eq_false (by omega)
  have i5 : decide (d.zs.length ≤ j) = false := decide_eq_false (by omega)
  clear OA hbt hz hvj q0 q1 q2 hXs hjv hj
  have es : (z.st == 0) = true := by rw [hst]; rfl
  have HST := Lib.hid hst
  clear hst
  go_enter Try.func49, Try.ntmps49
  go_wp2_with fail
  refine code_world (fun wa e0 => ?_)
  obtain ⟨gB, hba, _⟩ := one_alloc e0
  clear e0
  obtain ⟨B, hB⟩ : ∃ B, w.heap.size = B := ⟨_, rfl⟩
  rw [hB] at gB lD lZ ⊢
  have b0 : wa.cell? ⟨B, 0, none⟩ = some (.int .i64 1) := (cell_of_block gB 0).trans rfl
  have b1 : wa.cell? ⟨B, 1, none⟩ = some (.int .i64 j) := (cell_of_block gB 1).trans rfl
  have d1 : wa.cell? ⟨D, 1, none⟩ = some (.slice (some ⟨Z, 0, none⟩) d.zs.length cap) := (cell_of_block (blk_on cb1 hba) 1).trans rfl
  go_quiet (fail)
  go_wp2_with fail
  refine code_world (fun wc ec => ?_)
  have hbc : Below wa.heap.size wa wc := by rw [ec]; exact below_drewN (Below.refl _ _) _
  clear ec
  have hb2 : Below w.heap.size w wc := hba.trans (hbc.mono hba.size)
  have gB2 := blk_on gB hbc
  have lB2 := block_lt gB2
  have hs2 := hb2.size
  clear b0 b1 d1 hba hbc gB i3 i4 i5
  have d1 : wc.cell? ⟨D, 1, none⟩ = some (.slice (some ⟨Z, 0, none⟩) d.zs.length cap) := (cell_of_block (blk_on cb1 hb2) 1).trans rfl
  have b1 : wc.cell? ⟨B, 1, none⟩ = some (.int .i64 j) := (cell_of_block gB2 1).trans rfl
  have lZ' : Z < w.heap.size := by rw [hB]; exact lZ
  have cz0 : wc.cell? ⟨Z, j * 3, none⟩ = some (.int .i64 z.st) := (hb2.cell (p := ⟨Z, j * 3, none⟩) lZ').trans HQ0.out
  have cz1 : wc.cell? ⟨Z, j * 3 + 1, none⟩ = some (.slice a2 z.data.length c2) := (hb2.cell (p := ⟨Z, j * 3 + 1, none⟩) lZ').trans HQ1.out
  have cz2 : wc.cell? ⟨Z, j * 3 + 2, none⟩ = some (.int .i64 z.lasts) := (hb2.cell (p := ⟨Z, j * 3 + 2, none⟩) lZ').trans HQ2.out
  have lZ2 : Z < wc.heap.size := by omega
  have lD2 : D < wc.heap.size := by omega
  have gd1 : ∀ w', Below wc.heap.size wc w' → w'.cell? ⟨D, 1, none⟩ = some (.slice (some ⟨Z, 0, none⟩) d.zs.length cap) := fun w' h => (h.cell (p := ⟨D, 1, none⟩) lD2).trans d1
  have gb1 : ∀ w', Below wc.heap.size wc w' → w'.cell? ⟨B, 1, none⟩ = some (.int .i64 j) := fun w' h => (h.cell (p := ⟨B, 1, none⟩) lB2).trans b1
  have gz0 : ∀ w', Below wc.heap.size wc w' → w'.cell? ⟨Z, j * 3, none⟩ = some (.int .i64 z.st) := fun w' h => (h.cell (p := ⟨Z, j * 3, none⟩) lZ2).trans cz0
  have gz1 : ∀ w', Below wc.heap.size wc w' → w'.cell? ⟨Z, j * 3 + 1, none⟩ = some (.slice a2 z.data.length c2) := fun w' h => (h.cell (p := ⟨Z, j * 3 + 1, none⟩) lZ2).trans cz1
  have gz2 : ∀ w', Below wc.heap.size wc w' → w'.cell? ⟨Z, j * 3 + 2, none⟩ = some (.int .i64 z.lasts) := fun w' h => (h.cell (p := ⟨Z, j * 3 + 2, none⟩) lZ2).trans cz2
  clear d1 b1 cz0 cz1 cz2
  refine wp_region_noPanic ?_
  refine wp_region_till (T := Below wc.heap.size wc) 9 (by kernel_rfl) ?_ (fun hTill => ?_)
  · exact below_self_drew wc
  refine takeM 0 (v := ?_) rfl (by kernel_rfl) (by kernel_rfl) (by kernel_rfl) (by kernel_rfl) (fun _ _ _ h => h) (Or.inl ⟨by rfl, ?_⟩) (by assumption) (fun hTill => ?_)
  rotate_left
  · (intro w hSw; go_simp; try with_reducible rfl)
  (try simp only [Act.put, List.setIfInBounds_toArray, List.set_cons_zero, List.set_cons_succ])
  refine takeM 1 (v := ?_) rfl (by kernel_rfl) (by kernel_rfl) (by kernel_rfl) (by kernel_rfl) (fun _ _ _ h => h) (Or.inl ⟨by rfl, ?_⟩) (by assumption) (fun hTill => ?_)
  rotate_left
  · (intro w hSw; go_simp; try with_reducible rfl)
  (try simp only [Act.put, List.setIfInBounds_toArray, List.set_cons_zero, List.set_cons_succ])
  refine takeM 2 (v := ?_) rfl (by kernel_rfl) (by kernel_rfl) (by kernel_rfl) (by kernel_rfl) (fun _ _ _ h => h) (Or.inl ⟨by rfl, ?_⟩) (by assumption) (fun hTill => ?_)
  rotate_left
  · (intro w hSw; go_simp; try with_reducible rfl)
  (try simp only [Act.put, List.setIfInBounds_toArray, List.set_cons_zero, List.set_cons_succ])
  refine takeT 3 (v := ?_) rfl (by kernel_rfl) (by kernel_rfl) (by kernel_rfl) (by kernel_rfl) (by kernel_rfl) (by kernel_rfl) (fun _ _ _ h => h) (Or.inl ⟨by rfl, ?_⟩) (by assumption) (fun hTill => ?_)
  rotate_left
  · (intro w hSw; go_simp; try with_reducible rfl)
  (try simp only [Act.put, List.setIfInBounds_toArray, List.set_cons_zero, List.set_cons_succ])
  refine takeM 4 (v := ?_) rfl (by kernel_rfl) (by kernel_rfl) (by kernel_rfl) (by kernel_rfl) (fun _ _ _ h => h) (Or.inl ⟨by rfl, ?_⟩) (by assumption) (fun hTill => ?_)
  rotate_left
  · (intro w hSw; go_simp; try with_reducible rfl)
  (try simp only [Act.put, List.setIfInBounds_toArray, List.set_cons_zero, List.set_cons_succ])
  refine takeT 5 (v := ?_) rfl (by kernel_rfl) (by kernel_rfl) (by kernel_rfl) (by kernel_rfl) (by kernel_rfl) (by kernel_rfl) (fun _ _ _ h => h) (Or.inl ⟨by rfl, ?_⟩) (by assumption) (fun hTill => ?_)
  rotate_left
  · (intro w hSw; go_simp; try with_reducible rfl)
  (try simp only [Act.put, List.setIfInBounds_toArray, List.set_cons_zero, List.set_cons_succ])
  refine takeM 6 (v := ?_) rfl (by kernel_rfl) (by kernel_rfl) (by kernel_rfl) (by kernel_rfl) (fun _ _ _ h => h) (Or.inl ⟨by rfl, ?_⟩) (by assumption) (fun hTill => ?_)
  rotate_left
  · (intro w hSw; go_simp; try with_reducible rfl)
  (try simp only [Act.put, List.setIfInBounds_toArray, List.set_cons_zero, List.set_cons_succ])
  refine takeT 7 (v := ?_) rfl (by kernel_rfl) (by kernel_rfl) (by kernel_rfl) (by kernel_rfl) (by kernel_rfl) (by kernel_rfl) (fun _ _ _ h => h) (Or.inl ⟨by rfl, ?_⟩) (by assumption) (fun hTill => ?_)
  rotate_left
  · (intro w hSw; go_simp; try with_reducible rfl)
  (try simp only [Act.put, List.setIfInBounds_toArray, List.set_cons_zero, List.set_cons_succ])
  refine stepM 8 rfl (by kernel_rfl) (fun K hK => ?_)
  go_simp
  refine hK.out _ _ ?_ (fun hTill => ?_)
  · exact fun _ => ((Below.refl _ wc).drew).alloc (Nat.le_refl _) _
  clear hK K
  (try simp only [Act.put, List.setIfInBounds_toArray, List.set_cons_zero, List.set_cons_succ])
  refine stepM 9 rfl (by kernel_rfl) (fun K hK => ?_)
  go_simp
  refine hK.out _ _ ?_ (fun hTill => ?_)
  · exact till_over (by kernel_rfl)
  clear hK K
  (try simp only [Act.put, List.setIfInBounds_toArray, List.set_cons_zero, List.set_cons_succ])
  refine doneM (by kernel_rfl) ?_ _
  refine NoPanic.normal ?_
  clear gd1 gb1 gz0 gz1 gz2
  generalize e0 : (World.alloc wc _).drew = wd
  obtain ⟨gA, hbd, hsd⟩ := alloc_drew e0
  clear e0
  have hs3 : wd.heap.size = wc.heap.size + 1 := hsd
  have hb3 : Below w.heap.size w wd := hb2.trans (hbd.mono hs2)
  obtain ⟨A, hA⟩ : ∃ A, wc.heap.size = A := ⟨_, rfl⟩
  have gB3 := blk_on gB2 hbd
  have gA := (show wd.heap[A]? = _ from hA ▸ gA)
  have b0 : wd.cell? ⟨B, 0, none⟩ = some (.int .i64 1) := (cell_of_block gB3 0).trans rfl
  have a0 : wd.cell? ⟨A, 0, none⟩ = some (.int .i64 z.st) := (cell_of_block gA 0).trans rfl
  have a1 : wd.cell? ⟨A, 1, none⟩ = some (.slice a2 z.data.length c2) := (cell_of_block gA 1).trans rfl
  have a2' : wd.cell? ⟨A, 2, none⟩ = some (.int .i64 z.lasts) := (cell_of_block gA 2).trans rfl
  rw [hA] at lB2 lZ2 lD2 hs3 hs2 ⊢
  replace hs3 : A + 1 ≤ wd.heap.size := by omega
  clear gB2 hbd hsd
  have hDv := ((HOA.out.below hb3).out (Y := []) (by intro y hy; cases hy) (by intro h; cases h)).is
  have rD := range_of_block (blk_on cb1 hb3)
  have hi10 : (Try.prog.info? 27).map (·.size) = some 10 := by kernel_rfl
  go_wp2_with (refine wpList_load_at (by rfl) 27 (.tmp 62) rfl D 0 (by rfl) (dcs d (.slice (some ⟨Z, 0, none⟩) d.zs.length cap) r0 r1 f0 f1) _ rD Try.underlying27 rfl hi10 ?_)
  refine (dopen_any d _ _ hDv).mono ?_
  clear hDv rD hi10 b0 a0 a1 a2'
  rintro e wd ⟨rfl, hbe⟩
  have gA := blk_on gA hbe
  have gB3 := blk_on gB3 hbe
  have hb3 := hb3.trans (hbe.mono hb3.size)
  have hs3 : A + 1 ≤ wd.heap.size := by have := hbe.size; omega
  clear hbe
  have e3 : decide (4 ≤ ((openN d.zs : Nat) : Int)) = true := decide_eq_true (by omega)
  have e4 : decide (4 ≤ openN d.zs) = true := decide_eq_true (by omega)
  have hlo := block_lt HOA.out.blk
  have hb9 : Below base _ wd := hb3.mono (by omega)
  clear hop
  have _hx := hXZ
  go_wp2
  go_ret
  exact ⟨rfl, hb9, Away.of_below hb3, _, _, _, _, _, HOA.out.below hb3⟩
end Go.Proofs.Ytdiokmaomglefaa
