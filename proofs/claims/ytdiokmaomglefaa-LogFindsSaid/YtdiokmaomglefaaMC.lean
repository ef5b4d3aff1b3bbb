import Derived.Test.YtdiokmaomglefaaLZdo
/- Devices: what a command is, and how it is done. -/
namespace Go.Proofs.Ytdiokmaomglefaa
open Go Go.RowKit

set_option linter.unusedSimpArgs false in
set_option maxHeartbeats 1000000 in
theorem of_any (k : Int) (hk : k = 1 ∨ k = 2 ∨ k = 3) (n : Int) (a : Option Addr) (m c : Nat) (w : World) :
    Calls Try.prog 48 #[.agg #[.int .i64 k, .int .i64 n, .slice a m c]] w fun e w' => e = .returned (.iface 98 (.agg #[.int .i64 k, .int .i64 n, .slice a m c])) ∧ Below w.heap.size w w' := by
  have hb := (Below.refl _ w).alloc (Nat.le_refl _) (.cells #[.int .i64 k, .int .i64 n, .slice a m c] 37)
  rcases hk with rfl | rfl | rfl
  all_goals
    go_enter Try.func48, Try.ntmps48
    go_wp2
    go_ret
    exact ⟨rfl, hb⟩
set_option linter.unusedSimpArgs false in
set_option maxHeartbeats 1000000 in
theorem of_flush (n : Int) (a : Option Addr) (m c : Nat) (w : World) :
    Calls Try.prog 48 #[.agg #[.int .i64 4, .int .i64 n, .slice a m c]] w fun e w' => e = .returned (.iface 105 (.agg #[])) ∧ Below w.heap.size w w' := by
  have hb := (Below.refl _ w).alloc (Nat.le_refl _) (.cells #[.int .i64 4, .int .i64 n, .slice a m c] 37)
  go_enter Try.func48, Try.ntmps48
  go_wp2
  go_ret
  exact ⟨rfl, hb⟩
theorem DoPost.on {base : Nat} {X : List Nat} {D Z cap : Nat} {d' : Dv} {err : Int} {w w1 : World} {e : Ending} {w' : World} (h : DoPost base X D Z cap d' err w1 e w') (hb : Below w.heap.size w w1) (hl : base ≤ w.heap.size) : DoPost base X D Z cap d' err w e w' :=
  ⟨h.1, (hb.mono hl).trans h.2.1, (Away.of_below hb).trans h.2.2.1, h.2.2.2⟩
set_option linter.unusedSimpArgs false in
set_option maxRecDepth 100000 in
set_option maxHeartbeats 2000000 in
theorem done_zoned (base : Nat) (X : List Nat) (D Z cap : Nat) (d' : Dv) (err : Int) (w : World) (hl : base ≤ w.heap.size) (k : Int) (hk : k = 1 ∨ k = 2 ∨ k = 3) (n : Int) (a : Option Addr) (m c : Nat)
    (hdo : ∀ w1, Below w.heap.size w w1 → Calls Try.prog 49 #[.agg #[.int .i64 k, .int .i64 n, .slice a m c], .pointer (some ⟨D, 0, none⟩)] w1 (DoPost base X D Z cap d' err w1)) :
    Calls Try.prog 29 #[.pointer (some ⟨D, 0, none⟩), .agg #[.int .i64 k, .int .i64 n, .slice a m c]] w (DoPost base X D Z cap d' err w) := by
  have HDO := Lib.hid hdo
  have HK := Lib.hid hk
  clear hdo hk
  go_enter Try.func29, Try.ntmps29
  go_wp2_with fail
  refine calls_world (fun wa e0 => ?_)
  obtain ⟨gA, hba, hsa⟩ := one_alloc e0
  clear e0
  refine (of_any k HK.out n a m c wa).mono ?_
  rintro e wb ⟨rfl, hbb⟩
  have hb2 := hba.trans (hbb.mono hba.size)
  clear hsa gA hba hbb
  have hta : ∀ w, (Instr.typeAssert (.iface 98 (.agg #[.int .i64 k, .int .i64 n, .slice a m c])) 20 98 true).run Try.prog w = .ok (.tuple #[.agg #[.int .i64 k, .int .i64 n, .slice a m c], .bool true]) w := fun w => by kernel_rfl
  go_wp2_with fail
  refine calls_world (fun wc e0 => ?_)
  obtain ⟨_, hbc, _⟩ := one_alloc e0
  clear e0
  have hb3 := hb2.trans (hbc.mono hb2.size)
  refine (HDO.out wc hb3).mono ?_
  rintro e wd h
  obtain ⟨rfl, h2⟩ := id h
  go_wp2
  go_ret
  exact h.on hb3 hl
end Go.Proofs.Ytdiokmaomglefaa
/- Devices: a flush. -/
namespace Go.Proofs.Ytdiokmaomglefaa
open Go Go.RowKit

def flushZ (z : Zn) : Zn := { z with lasts := z.data.length }
def flushN (j : Nat) (d : Dv) : Dv := { d with zs := (d.zs.take j).map flushZ ++ d.zs.drop j }
def flushR0 (d : Dv) : Dv := { d with r0 := if d.f0.length = 0 then d.r0 else d.f0, f0 := [] }
def flushR1 (d : Dv) : Dv := { d with r1 := if d.f1.length = 0 then d.r1 else d.f1, f1 := [] }
def flushD (d : Dv) : Dv := flushR1 (flushR0 (flushN d.zs.length d))
theorem flushN_zero (d : Dv) : flushN 0 d = d := by simp [flushN]
theorem flushN_len (j : Nat) (d : Dv) : (flushN j d).zs.length = d.zs.length := by simp [flushN]; omega
theorem flushN_at (j : Nat) (d : Dv) (hj : j < d.zs.length) : (flushN j d).zs[j]? = some d.zs[j] := by
  simp only [flushN]
  rw [List.getElem?_append_right (by simp; omega)]
  simp [Nat.min_eq_left (Nat.le_of_lt hj), hj]
theorem flushN_succ (j : Nat) (d : Dv) (hj : j < d.zs.length) : setZ (flushN j d) j (flushZ d.zs[j]) = flushN (j + 1) d := by
  simp only [setZ, flushN]
  congr 1
  have h1 : ((d.zs.take j).map flushZ).length = j := by simp; omega
  rw [List.set_append_right _ _ (by omega), h1, Nat.sub_self, List.drop_eq_getElem_cons hj, List.set_cons_zero, List.take_succ_eq_append_getElem hj, List.map_append, List.append_assoc]
  rfl
structure FlLoop (base : Nat) (X : List Nat) (D Z cap : Nat) (vs : List Value) (r0 r1 f0 f1 : Value) (d : Dv) (w wr : World) : Prop where
  own : OwnAt base X D Z cap vs r0 r1 f0 f1 d wr
  bel : Below base w wr
  away : Away [D, Z] w wr
/-- What stands between two rounds of the second loop. -/
def FlRel (base : Nat) (X : List Nat) (D Z cap : Nat) (vs : List Value) (r0 r1 f0 f1 : Value) (d : Dv) (w : World) (i : Value) (wr : World) : Prop :=
  (i = .int .i64 0 ∧ FlLoop base X D Z cap vs r0 r1 f0 f1 d w wr) ∨ (i = .int .i64 1 ∧ ∃ q0 g0, FlLoop base X D Z cap vs q0 r1 g0 f1 (flushR0 d) w wr) ∨ (i = .int .i64 2 ∧ ∃ q0 q1 g0 g1, FlLoop base X D Z cap vs q0 q1 g0 g1 (flushR1 (flushR0 d)) w wr)
theorem flushR0_id (d : Dv) (h : d.f0 = []) : flushR0 d = d := by
  obtain ⟨size, zs, lr0, lr1, lf0, lf1, down, left, fault, done⟩ := d
  simp only at h
  subst h
  rfl
theorem flushR1_id (d : Dv) (h : d.f1 = []) : flushR1 d = d := by
  obtain ⟨size, zs, lr0, lr1, lf0, lf1, down, left, fault, done⟩ := d
  simp only at h
  subst h
  rfl
set_option linter.unusedSimpArgs false in
set_option maxRecDepth 100000 in
set_option maxHeartbeats 4000000 in
theorem done_flush (base : Nat) (X : List Nat) (D Z cap : Nat) (vs : List Value) (r0 r1 f0 f1 : Value) (d : Dv) (w : World) (OA : OwnAt base X D Z cap vs r0 r1 f0 f1 d w) (hXD : D ∈ X) (hXZ : Z ∈ X) (hXs : ∀ x ∈ X, x < w.heap.size) (hbD : base ≤ D) (hln : d.zs.length ≤ 1000000) (n : Int) (a : Option Addr) (m c : Nat) :
    Calls Try.prog 29 #[.pointer (some ⟨D, 0, none⟩), .agg #[.int .i64 4, .int .i64 n, .slice a m c]] w (DoPost base X D Z cap (flushD d) 0 w) := by
  have HOA := Lib.hid OA
  have HXS := Lib.hid hXs
  have hbZ : base ≤ Z := (OA.row.lt Z rfl).1
  have lD := block_lt OA.blk
  have lZ := (OA.row.lt Z rfl).2
  have hne := OA.ne
  clear OA hXs
  go_enter Try.func29, Try.ntmps29
  go_wp2_with fail
  refine calls_world (fun wa e0 => ?_)
  obtain ⟨gA, hba, hsa⟩ := one_alloc e0
  clear e0
  refine (of_flush n a m c wa).mono ?_
  rintro e wb ⟨rfl, hbb⟩
  have hb2 := hba.trans (hbb.mono hba.size)
  clear hsa gA hba hbb
  have h98 : ∀ w, (Instr.typeAssert (.iface 105 (.agg #[])) 20 98 true).run Try.prog w = .ok (.tuple #[.agg #[.int .i64 0, .int .i64 0, .slice none 0 0], .bool false]) w := fun w => by kernel_rfl
  have h102 : ∀ w, (Instr.typeAssert (.iface 105 (.agg #[])) 20 102 true).run Try.prog w = .ok (.tuple #[.agg #[.int .i64 0, .slice none 0 0], .bool false]) w := fun w => by kernel_rfl
  have h105 : ∀ w, (Instr.typeAssert (.iface 105 (.agg #[])) 20 105 true).run Try.prog w = .ok (.tuple #[.agg #[], .bool true]) w := fun w => by kernel_rfl
  have d1 : wb.cell? ⟨D, 1, none⟩ = some (.slice (some ⟨Z, 0, none⟩) d.zs.length cap) := (cell_of_block (blk_on HOA.out.blk hb2) 1).trans rfl
  have lDb : D < wb.heap.size := by have := hb2.size; omega
  have lDb2 : D < wb.heap.size + 1 := by omega
  have lDb3 : D < wb.heap.size + 1 + 1 := by omega
  go_wp2_with fail
  refine code_world (fun wl e0 => ?_)
  obtain ⟨_, _, _, hbl, _⟩ := three_alloc e0
  clear e0 h98 h102 h105 d1 lDb lDb2 lDb3
  have hb3 := hb2.trans (hbl.mono hb2.size)
  have HS := Lib.hid (FlLoop.mk (by rw [flushN_zero]; exact HOA.out.below hb3) (hb3.mono (by omega)) (Away.of_below hb3) : FlLoop base X D Z cap vs r0 r1 f0 f1 (flushN 0 d) w wl)
  clear hb2 hbl hb3
  go_loopw [12, 67] (fun _ i wr => ∃ j : Nat, j ≤ d.zs.length ∧ i = .int .i64 j ∧ ∃ vs, FlLoop base X D Z cap vs r0 r1 f0 f1 (flushN j d) w wr) (fun _ i _ => d.zs.length - (intOf i).toNat)
  case atStart => exact ⟨0, by omega, rfl, vs, HS.out⟩
  case round =>
    clear HS
    obtain ⟨j, hj, rfl, vs, HO⟩ := hrel
    have hdl := flushN_len j d
    by_cases hlt : j < d.zs.length
    · have hz := flushN_at j d hlt
      have hjl : j < (flushN j d).zs.length := by omega
      have hjv : j < vs.length := by rw [HO.own.len]; exact hjl
      have hbt := HO.own.dat j _ vs[j] hz (List.getElem?_eq_getElem hjv)
      obtain ⟨q0, q1, q2⟩ := zcs_at _ vs HO.own.len j _ _ hz (List.getElem?_eq_getElem hjv)
      obtain ⟨z, hy⟩ : ∃ z, d.zs[j] = z := ⟨_, rfl⟩
      rw [hy] at hz hbt q0 q2
      obtain ⟨a2, c2, hvj⟩ := hbt.open
      rw [hvj] at hbt q1
      have hl9 := hbt.1.len.2.2.2
      have cD : wr.cell? ⟨D, 1, none⟩ = some (.slice (some ⟨Z, 0, none⟩) d.zs.length cap) := (cell_of_block HO.own.blk 1).trans (by rw [hdl]; rfl)
      have cz0 : wr.cell? ⟨Z, j * 3, none⟩ = some (.int .i64 z.st) := (HO.own.row.cellAt (j * 3) (by omega)).trans q0
      have cz1 : wr.cell? ⟨Z, j * 3 + 1, none⟩ = some (.slice a2 z.data.length c2) := (HO.own.row.cellAt (j * 3 + 1) (by omega)).trans q1
      have cz2 : wr.cell? ⟨Z, j * 3 + 2, none⟩ = some (.int .i64 z.lasts) := (HO.own.row.cellAt (j * 3 + 2) (by omega)).trans q2
      have lDr := World.block_lt_of_cell? _ _ cD
      have lZr := World.block_lt_of_cell? _ _ cz0
      have fz : ∀ k, wr.frozen? ⟨Z, k, none⟩ = false := HO.own.row.frozenAt
      have gD : ∀ w', Below wr.heap.size wr w' → w'.cell? ⟨D, 1, none⟩ = some (.slice (some ⟨Z, 0, none⟩) d.zs.length cap) := fun w' h => (h.cell (p := ⟨D, 1, none⟩) lDr).trans cD
      have gz0 : ∀ w', Below wr.heap.size wr w' → w'.cell? ⟨Z, j * 3, none⟩ = some (.int .i64 z.st) := fun w' h => (h.cell (p := ⟨Z, j * 3, none⟩) lZr).trans cz0
      have gz1 : ∀ w', Below wr.heap.size wr w' → w'.cell? ⟨Z, j * 3 + 1, none⟩ = some (.slice a2 z.data.length c2) := fun w' h => (h.cell (p := ⟨Z, j * 3 + 1, none⟩) lZr).trans cz1
      have gz2 : ∀ w', Below wr.heap.size wr w' → w'.cell? ⟨Z, j * 3 + 2, none⟩ = some (.int .i64 z.lasts) := fun w' h => (h.cell (p := ⟨Z, j * 3 + 2, none⟩) lZr).trans cz2
      have GF : Hid (∀ w', Below wr.heap.size wr w' → ∀ k, w'.frozen? ⟨Z, k, none⟩ = false) := Lib.hid (fun w' h k => (h.frozen (p := ⟨Z, k, none⟩) lZr).trans (fz k))
      have hlX : ∀ x ∈ X, x < wr.heap.size := fun x hx => Nat.lt_of_lt_of_le (HXS.out x hx) HO.away.size
      have HLX := Lib.hid hlX
      have HH := Lib.hid HO
      have HY := Lib.hid hy
      have HBT := Lib.hid hbt
      have HJL := Lib.hid hjl
      have i1 : (0 : Int) ≤ (j : Int) := by omega
      have i2 : (j : Int) < (d.zs.length : Int) := by omega
      clear HO hy hvj hz q0 q1 q2 cD cz0 cz1 cz2 fz lDr lZr hbt hlX hdl hjl hjv
      go_wp2_with fail
      refine wp_region_noPanic ?_
      refine wp_region_till (T := Below wr.heap.size wr) 14 (by kernel_rfl) ?_ (fun hTill => ?_)
      · exact below_self_drew wr
      refine takeM 0 (v := ?_) rfl (by kernel_rfl) (by kernel_rfl) (by kernel_rfl) (by kernel_rfl) (fun _ _ _ h => h) (Or.inl ⟨by rfl, ?_⟩) (by assumption) (fun hTill => ?_)
      rotate_left
      · (intro w hSw; go_simp; try with_reducible rfl)
      (try simp only [Act.put, List.setIfInBounds_toArray, List.set_cons_zero, List.set_cons_succ])
      refine takeM 1 (v := ?_) rfl (by kernel_rfl) (by kernel_rfl) (by kernel_rfl) (by kernel_rfl) (fun _ _ _ h => h) (Or.inl ⟨by rfl, ?_⟩) (by assumption) (fun hTill => ?_)
      rotate_left
      · (intro w hSw; go_simp; try with_reducible rfl)
      (try simp only [Act.put, List.setIfInBounds_toArray, List.set_cons_zero, List.set_cons_succ])
      refine takeM 2 (v := ?_) rfl (by kernel_rfl) (by kernel_rfl) (by kernel_rfl) (by kernel_rfl) (fun _ _ _ h => h) (Or.inl ⟨by rfl, ?_⟩) (by assumption) (fun hTill => ?_)
      rotate_left
      · (intro w hSw; go_simp; try with_reducible rfl)
      (try simp only [Act.put, List.setIfInBounds_toArray, List.set_cons_zero, List.set_cons_succ])
      refine takeT 3 (v := ?_) rfl (by kernel_rfl) (by kernel_rfl) (by kernel_rfl) (by kernel_rfl) (by kernel_rfl) (by kernel_rfl) (fun _ _ _ h => h) (Or.inl ⟨by rfl, ?_⟩) (by assumption) (fun hTill => ?_)
      rotate_left
      · (intro w hSw; go_simp; try with_reducible rfl)
      (try simp only [Act.put, List.setIfInBounds_toArray, List.set_cons_zero, List.set_cons_succ])
      refine takeM 4 (v := ?_) rfl (by kernel_rfl) (by kernel_rfl) (by kernel_rfl) (by kernel_rfl) (fun _ _ _ h => h) (Or.inl ⟨by rfl, ?_⟩) (by assumption) (fun hTill => ?_)
      rotate_left
      · (intro w hSw; go_simp; try with_reducible rfl)
      (try simp only [Act.put, List.setIfInBounds_toArray, List.set_cons_zero, List.set_cons_succ])
      refine takeM 5 (v := ?_) rfl (by kernel_rfl) (by kernel_rfl) (by kernel_rfl) (by kernel_rfl) (fun _ _ _ h => h) (Or.inl ⟨by rfl, ?_⟩) (by assumption) (fun hTill => ?_)
      rotate_left
      · (intro w hSw; go_simp; try with_reducible rfl)
      (try simp only [Act.put, List.setIfInBounds_toArray, List.set_cons_zero, List.set_cons_succ])
      refine takeM 6 (v := ?_) rfl (by kernel_rfl) (by kernel_rfl) (by kernel_rfl) (by kernel_rfl) (fun _ _ _ h => h) (Or.inl ⟨by rfl, ?_⟩) (by assumption) (fun hTill => ?_)
      rotate_left
      · (intro w hSw; go_simp; try with_reducible rfl)
      (try simp only [Act.put, List.setIfInBounds_toArray, List.set_cons_zero, List.set_cons_succ])
      refine takeM 7 (v := ?_) rfl (by kernel_rfl) (by kernel_rfl) (by kernel_rfl) (by kernel_rfl) (fun _ _ _ h => h) (Or.inl ⟨by rfl, ?_⟩) (by assumption) (fun hTill => ?_)
      rotate_left
      · (intro w hSw; go_simp; try with_reducible rfl)
      (try simp only [Act.put, List.setIfInBounds_toArray, List.set_cons_zero, List.set_cons_succ])
      refine takeT 8 (v := ?_) rfl (by kernel_rfl) (by kernel_rfl) (by kernel_rfl) (by kernel_rfl) (by kernel_rfl) (by kernel_rfl) (fun _ _ _ h => h) (Or.inl ⟨by rfl, ?_⟩) (by assumption) (fun hTill => ?_)
      rotate_left
      · (intro w hSw; go_simp; try with_reducible rfl)
      (try simp only [Act.put, List.setIfInBounds_toArray, List.set_cons_zero, List.set_cons_succ])
      refine takeM 9 (v := ?_) rfl (by kernel_rfl) (by kernel_rfl) (by kernel_rfl) (by kernel_rfl) (fun _ _ _ h => h) (Or.inl ⟨by rfl, ?_⟩) (by assumption) (fun hTill => ?_)
      rotate_left
      · (intro w hSw; go_simp; try with_reducible rfl)
      (try simp only [Act.put, List.setIfInBounds_toArray, List.set_cons_zero, List.set_cons_succ])
      refine takeM 10 (v := ?_) rfl (by kernel_rfl) (by kernel_rfl) (by kernel_rfl) (by kernel_rfl) (fun _ _ _ h => h) (Or.inl ⟨by rfl, ?_⟩) (by assumption) (fun hTill => ?_)
      rotate_left
      · (intro w hSw; go_simp; try with_reducible rfl)
      (try simp only [Act.put, List.setIfInBounds_toArray, List.set_cons_zero, List.set_cons_succ])
      refine takeT 11 (v := ?_) rfl (by kernel_rfl) (by kernel_rfl) (by kernel_rfl) (by kernel_rfl) (by kernel_rfl) (by kernel_rfl) (fun _ _ _ h => h) (Or.inl ⟨by rfl, ?_⟩) (by assumption) (fun hTill => ?_)
      rotate_left
      · (intro w hSw; go_simp; try with_reducible rfl)
      (try simp only [Act.put, List.setIfInBounds_toArray, List.set_cons_zero, List.set_cons_succ])
      refine stepM 12 rfl (by kernel_rfl) (fun K hK => ?_)
      (go_simp; go_at_call 50; refine (zflush_any z.st z.lasts a2 z.data.length c2 z.data wr.drew (HBT.out.1.below (Below.refl _ wr).drew)).mono ?_; rintro e w5 ⟨⟨v5, rfl, hv5⟩, hb5⟩; obtain ⟨a5, c5, rfl, _⟩ := own_bt hv5 hl9; have hb6 : Below wr.heap.size wr w5 := (Below.refl _ wr).drew.trans hb5; have k0 := gz0 w5 hb6; have k1 := gz1 w5 hb6; have k2 := gz2 w5 hb6; have z0 := GF.out w5 hb6 (j * 3); have z1 := GF.out w5 hb6 (j * 3 + 1); have z2 := GF.out w5 hb6 (j * 3 + 2); clear gz0 gz1 gz2; unfold zv)
      refine hK.out _ _ ?_ (fun hTill => ?_)
      · exact fun _ => hb6
      clear hK K
      (try simp only [Act.put, List.setIfInBounds_toArray, List.set_cons_zero, List.set_cons_succ])
      refine takeM 13 (v := ?_) rfl (by kernel_rfl) (by kernel_rfl) (by kernel_rfl) (by kernel_rfl) (fun _ _ _ h => h) (Or.inl ⟨by rfl, ?_⟩) (by assumption) (fun hTill => ?_)
      rotate_left
      · (intro w hSw; go_simp; try with_reducible rfl)
      (try simp only [Act.put, List.setIfInBounds_toArray, List.set_cons_zero, List.set_cons_succ])
      refine stepM 14 rfl (by kernel_rfl) (fun K hK => ?_)
      go_simp
      refine hK.out _ _ ?_ (fun hTill => ?_)
      · exact till_over (by kernel_rfl)
      clear hK K
      (try simp only [Act.put, List.setIfInBounds_toArray, List.set_cons_zero, List.set_cons_succ])
      refine doneM (by kernel_rfl) ?_ _
      refine NoPanic.normal ?_
      have HO := HH.out
      have hvo : BtO X w5 (.slice a5 z.data.length c5) (flushZ z).data := BtO.own hv5 hl9 HLX.out
      have O6 := (HO.own.below hb6).zone hXZ j HJL.out (flushZ z) (.slice a5 z.data.length c5) hvo
      have hsuc := flushN_succ j d hlt
      rw [HY.out] at hsuc
      rw [hsuc] at O6
      have hbe := HO.bel.trans ((hb6.mono (by have := HO.away.size; omega)).trans (below_three (Z := Z) (a := j * 3) (b := j * 3 + 1) (c := j * 3 + 2) (u := .int .i64 z.st) (v := .slice a5 z.data.length c5) (x := .int .i64 z.data.length) w5 hbZ))
      have haw := HO.away.trans ((Away.of_below hb6).trans (away_three (Z := Z) (a := j * 3) (b := j * 3 + 1) (c := j * 3 + 2) (u := .int .i64 z.st) (v := .slice a5 z.data.length c5) (x := .int .i64 z.data.length) [D, Z] w5 (by simp)))
      have HS := Lib.hid (FlLoop.mk O6 hbe haw)
      clear HO hvo O6 hsuc hbe haw k0 k1 k2 z0 z1 z2 gD GF HBT
      go_wp2
      go_roundw
      case rel => exact ⟨j + 1, by omega, congrArg (Value.int .i64) (by omega), _, HS.out⟩
      case measure =>
        show d.zs.length - ((j : Int) + 1).toNat < d.zs.length - (j : Int).toNat
        omega
    · obtain rfl : j = d.zs.length := by omega
      have HS := Lib.hid HO
      obtain ⟨a2, c2, rfl⟩ := HO.own.b2.open
      obtain ⟨a3, c3, rfl⟩ := HO.own.b3.open
      have d4 : wr.cell? ⟨D, 4, none⟩ = some (.slice a2 d.f0.length c2) := (cell_of_block HO.own.blk 4).trans rfl
      have d5 : wr.cell? ⟨D, 5, none⟩ = some (.slice a3 d.f1.length c3) := (cell_of_block HO.own.blk 5).trans rfl
      clear HO hdl
      have x0 : ∀ w, (Instr.index 25 (.agg #[.slice a2 d.f0.length c2, .slice a3 d.f1.length c3]) (.int .i64 0)).run Try.prog w = .ok (.slice a2 d.f0.length c2) w := fun w => by simp [Instr.index, go_sem, Result.andThen]
      have x1 : ∀ w, (Instr.index 25 (.agg #[.slice a2 d.f0.length c2, .slice a3 d.f1.length c3]) (.int .i64 1)).run Try.prog w = .ok (.slice a3 d.f1.length c3) w := fun w => by simp [Instr.index, go_sem, Result.andThen]
      go_wp2_with fail
      go_loopw [13, 14, 89] (fun _ _ i wr => FlRel base X D Z cap vs r0 r1 (.slice a2 d.f0.length c2) (.slice a3 d.f1.length c3) (flushN d.zs.length d) w i wr) (fun _ _ i _ => 2 - (intOf i).toNat)
      case atStart => exact Or.inl ⟨rfl, HS.out⟩
      case round =>
        clear HS d4 d5
        rcases hrel with ⟨rfl, HO⟩ | ⟨rfl, p0, e0, HO⟩ | ⟨rfl, p0, p1, e0, e1, HO⟩
        · clear x1
          have HS := Lib.hid HO
          by_cases hf : d.f0.length = 0
          · have hn : (flushN d.zs.length d).f0 = [] := List.eq_nil_of_length_eq_zero hf
            have hid := flushR0_id (flushN d.zs.length d) hn
            have hlz : decide ((0 : Int) < (d.f0.length : Int)) = false := decide_eq_false (by omega)
            have hlz2 : decide (0 < d.f0.length) = false := decide_eq_false (by omega)
            have HI := Lib.hid hid
            clear HO hn hid hf
            go_wp2_with fail
            go_roundw
            case rel => exact Or.inr (Or.inl ⟨rfl, ⟨_, _, by rw [HI.out]; exact HS.out⟩⟩)
            case measure => simp [intOf]
          · have hlz : decide ((0 : Int) < (d.f0.length : Int)) = true := decide_eq_true (by omega)
            have hlz2 : decide (0 < d.f0.length) = true := decide_eq_true (by omega)
            have k2 := (cell_of_block HO.own.blk 2).trans rfl
            have k4 := (cell_of_block HO.own.blk 4).trans rfl
            have z2 := thawed HO.own.blk
            have HF := Lib.hid hf
            clear HO hf
            simp only [dcs] at k2 k4
            go_wp2_with fail
            refine wp_region_noPanic ?_
            refine wp_region_held_drew (S := (fun _ => True)) (by kernel_rfl) ?_ (fun hHeld => ?_)
            · trivial
            refine takeL 0 (v := ?_) rfl (by kernel_rfl) (by kernel_rfl) (by kernel_rfl) (fun _ _ _ h => h) (Or.inl ⟨by rfl, ?_⟩) (by assumption) ?_
            rotate_left
            · (intro w hSw; go_simp; try with_reducible rfl)
            (try simp only [Act.put, List.setIfInBounds_toArray, List.set_cons_zero, List.set_cons_succ])
            refine takeL 1 (v := ?_) rfl (by kernel_rfl) (by kernel_rfl) (by kernel_rfl) (fun _ _ _ h => h) (Or.inl ⟨by rfl, ?_⟩) (by assumption) ?_
            rotate_left
            · (intro w hSw; go_simp; try with_reducible rfl)
            (try simp only [Act.put, List.setIfInBounds_toArray, List.set_cons_zero, List.set_cons_succ])
            refine takeL 2 (v := ?_) rfl (by kernel_rfl) (by kernel_rfl) (by kernel_rfl) (fun _ _ _ h => h) (Or.inl ⟨by rfl, ?_⟩) (by assumption) ?_
            rotate_left
            · (intro w hSw; go_simp; try with_reducible rfl)
            (try simp only [Act.put, List.setIfInBounds_toArray, List.set_cons_zero, List.set_cons_succ])
            refine takeL 3 (v := ?_) rfl (by kernel_rfl) (by kernel_rfl) (by kernel_rfl) (fun _ _ _ h => h) (Or.inl ⟨by rfl, ?_⟩) (by assumption) ?_
            rotate_left
            · (intro w hSw; go_simp; try with_reducible rfl)
            (try simp only [Act.put, List.setIfInBounds_toArray, List.set_cons_zero, List.set_cons_succ])
            refine takeL 4 (v := ?_) rfl (by kernel_rfl) (by kernel_rfl) (by kernel_rfl) (fun _ _ _ h => h) (Or.inl ⟨by rfl, ?_⟩) (by assumption) ?_
            rotate_left
            · (intro w hSw; go_simp; try with_reducible rfl)
            (try simp only [Act.put, List.setIfInBounds_toArray, List.set_cons_zero, List.set_cons_succ])
            refine takeL 5 (v := ?_) rfl (by kernel_rfl) (by kernel_rfl) (by kernel_rfl) (fun _ _ _ h => h) (Or.inl ⟨by rfl, ?_⟩) (by assumption) ?_
            rotate_left
            · (intro w hSw; go_simp; try with_reducible rfl)
            (try simp only [Act.put, List.setIfInBounds_toArray, List.set_cons_zero, List.set_cons_succ])
            refine takeL 6 (v := ?_) rfl (by kernel_rfl) (by kernel_rfl) (by kernel_rfl) (fun _ _ _ h => h) (Or.inl ⟨by rfl, ?_⟩) (by assumption) ?_
            rotate_left
            · (intro w hSw; go_simp; try with_reducible rfl)
            (try simp only [Act.put, List.setIfInBounds_toArray, List.set_cons_zero, List.set_cons_succ])
            refine takeL 7 (v := ?_) rfl (by kernel_rfl) (by kernel_rfl) (by kernel_rfl) (fun _ _ _ h => h) (Or.inl ⟨by rfl, ?_⟩) (by assumption) ?_
            rotate_left
            · (intro w hSw; go_simp; try with_reducible rfl)
            (try simp only [Act.put, List.setIfInBounds_toArray, List.set_cons_zero, List.set_cons_succ])
            refine takeL 9 (v := ?_) rfl (by kernel_rfl) (by kernel_rfl) (by kernel_rfl) (fun _ _ _ h => h) (Or.inl ⟨by rfl, ?_⟩) (by assumption) ?_
            rotate_left
            · (intro w hSw; go_simp; try with_reducible rfl)
            (try simp only [Act.put, List.setIfInBounds_toArray, List.set_cons_zero, List.set_cons_succ])
            refine takeL 10 (v := ?_) rfl (by kernel_rfl) (by kernel_rfl) (by kernel_rfl) (fun _ _ _ h => h) (Or.inl ⟨by rfl, ?_⟩) (by assumption) ?_
            rotate_left
            · (intro w hSw; go_simp; try with_reducible rfl)
            (try simp only [Act.put, List.setIfInBounds_toArray, List.set_cons_zero, List.set_cons_succ])
            refine stepL 8 rfl (by kernel_rfl) (fun K hK => ?_)
            go_simp
            refine hK.out _ _ ?_ (fun hHeld => ?_)
            · trivial
            clear hK K
            (try simp only [Act.put, List.setIfInBounds_toArray, List.set_cons_zero, List.set_cons_succ])
            refine takeL 11 (v := ?_) rfl (by kernel_rfl) (by kernel_rfl) (by kernel_rfl) (fun _ _ _ h => h) (Or.inl ⟨by rfl, ?_⟩) (by assumption) ?_
            rotate_left
            · (intro w hSw; go_simp; try with_reducible rfl)
            (try simp only [Act.put, List.setIfInBounds_toArray, List.set_cons_zero, List.set_cons_succ])
            refine stepL 12 rfl (by kernel_rfl) (fun K hK => ?_)
            go_simp
            refine hK.out _ _ ?_ (fun hHeld => ?_)
            · trivial
            clear hK K
            (try simp only [Act.put, List.setIfInBounds_toArray, List.set_cons_zero, List.set_cons_succ])
            refine wpAnyH_done (by kernel_rfl) ?_ _
            refine NoPanic.normal ?_
            have HO := HS.out
            have La := set_cell (w := wr.drew) (j := 2) HO.own.blk (.slice a2 d.f0.length c2)
            have Lb := La.trans (set_cell (j := 4) La.blk (.slice none 0 0))
            have O5 := HO.own.below (Below.refl _ wr).drew
            have O6 := O5.onD hXD (.slice a2 d.f0.length c2) r1 (.slice none 0 0) (.slice a3 d.f1.length c3) (flushR0 (flushN d.zs.length d)) rfl Lb rfl (by simp only [flushR0, flushN, HF.out, if_false]; exact O5.b2) O5.b1 (BtO.nil _ _) O5.b3
            have hbe := HO.bel.trans ((Below.refl base wr).drew.trans (Lb.bel.mono hbD))
            have haw := HO.away.trans ((Away.of_below (Below.refl _ wr).drew).trans (Away.laid (X := [D, Z]) Lb (by simp)))
            have HS2 := Lib.hid (FlLoop.mk O6 hbe haw)
            clear HO La Lb O5 O6 hbe haw k2 k4 z2
            go_wp2
            go_roundw
            case rel => exact Or.inr (Or.inl ⟨rfl, ⟨_, _, HS2.out⟩⟩)
            case measure => simp [intOf]
        · clear x0
          have HS := Lib.hid HO
          by_cases hf : d.f1.length = 0
          · have hn : (flushR0 (flushN d.zs.length d)).f1 = [] := List.eq_nil_of_length_eq_zero hf
            have hid := flushR1_id (flushR0 (flushN d.zs.length d)) hn
            have hlz : decide ((0 : Int) < (d.f1.length : Int)) = false := decide_eq_false (by omega)
            have hlz2 : decide (0 < d.f1.length) = false := decide_eq_false (by omega)
            have HI := Lib.hid hid
            clear HO hn hid hf
            go_wp2_with fail
            go_roundw
            case rel => exact Or.inr (Or.inr ⟨rfl, ⟨_, _, _, _, by rw [HI.out]; exact HS.out⟩⟩)
            case measure => simp [intOf]
          · have hlz : decide ((0 : Int) < (d.f1.length : Int)) = true := decide_eq_true (by omega)
            have hlz2 : decide (0 < d.f1.length) = true := decide_eq_true (by omega)
            have k2 := (cell_of_block HO.own.blk 3).trans rfl
            have k4 := (cell_of_block HO.own.blk 5).trans rfl
            have z2 := thawed HO.own.blk
            have HF := Lib.hid hf
            clear HO hf
            simp only [dcs] at k2 k4
            go_wp2_with fail
            refine wp_region_noPanic ?_
            refine wp_region_held_drew (S := (fun _ => True)) (by kernel_rfl) ?_ (fun hHeld => ?_)
            · trivial
            refine takeL 0 (v := ?_) rfl (by kernel_rfl) (by kernel_rfl) (by kernel_rfl) (fun _ _ _ h => h) (Or.inl ⟨by rfl, ?_⟩) (by assumption) ?_
            rotate_left
            · (intro w hSw; go_simp; try with_reducible rfl)
            (try simp only [Act.put, List.setIfInBounds_toArray, List.set_cons_zero, List.set_cons_succ])
            refine takeL 1 (v := ?_) rfl (by kernel_rfl) (by kernel_rfl) (by kernel_rfl) (fun _ _ _ h => h) (Or.inl ⟨by rfl, ?_⟩) (by assumption) ?_
            rotate_left
            · (intro w hSw; go_simp; try with_reducible rfl)
            (try simp only [Act.put, List.setIfInBounds_toArray, List.set_cons_zero, List.set_cons_succ])
            refine takeL 2 (v := ?_) rfl (by kernel_rfl) (by kernel_rfl) (by kernel_rfl) (fun _ _ _ h => h) (Or.inl ⟨by rfl, ?_⟩) (by assumption) ?_
            rotate_left
            · (intro w hSw; go_simp; try with_reducible rfl)
            (try simp only [Act.put, List.setIfInBounds_toArray, List.set_cons_zero, List.set_cons_succ])
            refine takeL 3 (v := ?_) rfl (by kernel_rfl) (by kernel_rfl) (by kernel_rfl) (fun _ _ _ h => h) (Or.inl ⟨by rfl, ?_⟩) (by assumption) ?_
            rotate_left
            · (intro w hSw; go_simp; try with_reducible rfl)
            (try simp only [Act.put, List.setIfInBounds_toArray, List.set_cons_zero, List.set_cons_succ])
            refine takeL 4 (v := ?_) rfl (by kernel_rfl) (by kernel_rfl) (by kernel_rfl) (fun _ _ _ h => h) (Or.inl ⟨by rfl, ?_⟩) (by assumption) ?_
            rotate_left
            · (intro w hSw; go_simp; try with_reducible rfl)
            (try simp only [Act.put, List.setIfInBounds_toArray, List.set_cons_zero, List.set_cons_succ])
            refine takeL 5 (v := ?_) rfl (by kernel_rfl) (by kernel_rfl) (by kernel_rfl) (fun _ _ _ h => h) (Or.inl ⟨by rfl, ?_⟩) (by assumption) ?_
            rotate_left
            · (intro w hSw; go_simp; try with_reducible rfl)
            (try simp only [Act.put, List.setIfInBounds_toArray, List.set_cons_zero, List.set_cons_succ])
            refine takeL 6 (v := ?_) rfl (by kernel_rfl) (by kernel_rfl) (by kernel_rfl) (fun _ _ _ h => h) (Or.inl ⟨by rfl, ?_⟩) (by assumption) ?_
            rotate_left
            · (intro w hSw; go_simp; try with_reducible rfl)
            (try simp only [Act.put, List.setIfInBounds_toArray, List.set_cons_zero, List.set_cons_succ])
            refine takeL 7 (v := ?_) rfl (by kernel_rfl) (by kernel_rfl) (by kernel_rfl) (fun _ _ _ h => h) (Or.inl ⟨by rfl, ?_⟩) (by assumption) ?_
            rotate_left
            · (intro w hSw; go_simp; try with_reducible rfl)
            (try simp only [Act.put, List.setIfInBounds_toArray, List.set_cons_zero, List.set_cons_succ])
            refine takeL 9 (v := ?_) rfl (by kernel_rfl) (by kernel_rfl) (by kernel_rfl) (fun _ _ _ h => h) (Or.inl ⟨by rfl, ?_⟩) (by assumption) ?_
            rotate_left
            · (intro w hSw; go_simp; try with_reducible rfl)
            (try simp only [Act.put, List.setIfInBounds_toArray, List.set_cons_zero, List.set_cons_succ])
            refine takeL 10 (v := ?_) rfl (by kernel_rfl) (by kernel_rfl) (by kernel_rfl) (fun _ _ _ h => h) (Or.inl ⟨by rfl, ?_⟩) (by assumption) ?_
            rotate_left
            · (intro w hSw; go_simp; try with_reducible rfl)
            (try simp only [Act.put, List.setIfInBounds_toArray, List.set_cons_zero, List.set_cons_succ])
            refine stepL 8 rfl (by kernel_rfl) (fun K hK => ?_)
            go_simp
            refine hK.out _ _ ?_ (fun hHeld => ?_)
            · trivial
            clear hK K
            (try simp only [Act.put, List.setIfInBounds_toArray, List.set_cons_zero, List.set_cons_succ])
            refine takeL 11 (v := ?_) rfl (by kernel_rfl) (by kernel_rfl) (by kernel_rfl) (fun _ _ _ h => h) (Or.inl ⟨by rfl, ?_⟩) (by assumption) ?_
            rotate_left
            · (intro w hSw; go_simp; try with_reducible rfl)
            (try simp only [Act.put, List.setIfInBounds_toArray, List.set_cons_zero, List.set_cons_succ])
            refine stepL 12 rfl (by kernel_rfl) (fun K hK => ?_)
            go_simp
            refine hK.out _ _ ?_ (fun hHeld => ?_)
            · trivial
            clear hK K
            (try simp only [Act.put, List.setIfInBounds_toArray, List.set_cons_zero, List.set_cons_succ])
            refine wpAnyH_done (by kernel_rfl) ?_ _
            refine NoPanic.normal ?_
            have HO := HS.out
            have La := set_cell (w := wr.drew) (j := 3) HO.own.blk (.slice a3 d.f1.length c3)
            have Lb := La.trans (set_cell (j := 5) La.blk (.slice none 0 0))
            have O5 := HO.own.below (Below.refl _ wr).drew
            have O6 := O5.onD hXD p0 (.slice a3 d.f1.length c3) e0 (.slice none 0 0) (flushR1 (flushR0 (flushN d.zs.length d))) rfl Lb rfl O5.b0 (by simp only [flushR1, flushR0, flushN, HF.out, if_false]; exact O5.b3) O5.b2 (BtO.nil _ _)
            have hbe := HO.bel.trans ((Below.refl base wr).drew.trans (Lb.bel.mono hbD))
            have haw := HO.away.trans ((Away.of_below (Below.refl _ wr).drew).trans (Away.laid (X := [D, Z]) Lb (by simp)))
            have HS2 := Lib.hid (FlLoop.mk O6 hbe haw)
            clear HO La Lb O5 O6 hbe haw k2 k4 z2
            go_wp2
            go_roundw
            case rel => exact Or.inr (Or.inr ⟨rfl, ⟨_, _, _, _, HS2.out⟩⟩)
            case measure => simp [intOf]
        · have HS := Lib.hid HO
          clear HO
          go_wp2
          go_ret
          exact ⟨rfl, HS.out.bel, HS.out.away, _, _, _, _, _, HS.out.own⟩
end Go.Proofs.Ytdiokmaomglefaa
/- Devices: Do. -/
namespace Go.Proofs.Ytdiokmaomglefaa
open Go Go.RowKit

theorem results_cc {P : Program} {fn : Func} {p q : Tmp} {t1 t2 : TypeId} (h : fn.results = #[.cell p t1, .cell q t2]) (tmps : Array Value) (w : World) (g1 g2 : Nat) (e1 : TypeId) (c1 : Array Value) (d1 : TypeDesc) (n : Nat) (v : Value)
    (hp : tmps.getD p undef = .pointer (some ⟨g1, 0, none⟩)) (h1 : w.heap[g1]? = some (.cells c1 e1 (0, 0)))
    (hu1 : P.underlying t1 = some d1) (hd1 : (match d1 with | .struct _ | .array _ _ => true | _ => false) = true) (hi1 : (P.info? t1).map (·.size) = some n) (hn : c1.size = n)
    (hq : tmps.getD q undef = .pointer (some ⟨g2, 0, none⟩)) (hl : (loadVar t2 ⟨g2, 0, none⟩).run P w = .ok v w) :
    (results fn tmps).run P w = .ok (.tuple #[.agg c1, v]) w := by
  have hp' : tmps[p]?.getD undef = .pointer (some ⟨g1, 0, none⟩) := by simpa using hp
  have hq' : tmps[q]?.getD undef = .pointer (some ⟨g2, 0, none⟩) := by simpa using hq
  simp [results, h, hp', hq', asAddr, run_loadVar_row w g1 e1 t1 c1 (0, 0) d1 h1 hu1 hd1 (by rw [hn]; exact hi1), hl]
theorem load_errno {w : World} {g : Nat} {v : Value} (h : w.cell? ⟨g, 0, none⟩ = some v) : (loadVar 28 ⟨g, 0, none⟩).run Try.prog w = .ok v w := by
  simp [loadVar, go_sem, h]
theorem DvIs.ten {w : World} {cs : List Value} {d : Dv} (h : DvIs w cs d) : cs.toArray.size = 10 := by
  obtain ⟨v, r0, r1, f0, f1, rfl, _⟩ := h
  rfl
theorem DvIs.one {w : World} {cs : List Value} {d : Dv} (h : DvIs w cs d) : cs.toArray.all (·.oneCell') = true := by
  obtain ⟨v, r0, r1, f0, f1, rfl, hz, h0, h1, h2, h3⟩ := h
  obtain ⟨az, cz, rfl⟩ := hz.open
  obtain ⟨a0, c0, rfl⟩ := h0.open
  obtain ⟨a1, c1, rfl⟩ := h1.open
  obtain ⟨a2, c2, rfl⟩ := h2.open
  obtain ⟨a3, c3, rfl⟩ := h3.open
  simp [dcs]
  exact ⟨rfl, rfl, rfl, rfl, rfl, rfl, rfl, rfl, rfl, rfl⟩
theorem OwnAt.other {base : Nat} {X : List Nat} {D Z cap : Nat} {vs : List Value} {r0 r1 f0 f1 : Value} {d : Dv} {w w2 : World} {g : Nat} {cs : Array Value} {t : TypeId} (h : OwnAt base X D Z cap vs r0 r1 f0 f1 d w) (L : Laid w g cs t w2) (hg : g ∈ X) (hD : g ≠ D) (hZ : g ≠ Z) : OwnAt base X D Z cap vs r0 r1 f0 f1 d w2 := by
  have ha := Away.laid L hg
  refine ⟨(L.rest D (Ne.symm hD)).trans h.blk, ?_, h.len, fun j z u hz hu => (h.dat j z u hz hu).away ha, h.b0.away ha, h.b1.away ha, h.b2.away ha, h.b3.away ha⟩
  obtain ⟨h1, h0 | ⟨g', c, cur, e, hg', hh, r⟩⟩ := h.row
  · cases h0.1
  · cases e
    exact ⟨h1, Or.inr ⟨Z, cap, cur, rfl, hg', (L.rest Z (Ne.symm hZ)).trans hh, r⟩⟩
set_option linter.unusedSimpArgs false in
set_option maxRecDepth 100000 in
set_option maxHeartbeats 4000000 in
theorem do1_any (base base0 : Nat) (X : List Nat) (D Z cap : Nat) (vs : List Value) (r0 r1 f0 f1 : Value) (d : Dv) (w : World) (Eb Cb : Nat) (OA : OwnAt base X D Z cap vs r0 r1 f0 f1 d w) (hXD : D ∈ X) (hbD : base ≤ D) (hb0 : base0 ≤ base) (hbE : base0 ≤ Eb) (hED : Eb ≠ D) (hEZ : Eb ≠ Z) (hEX : Eb ∈ X) (free : Free d)
    (he : w.heap[Eb]? = some (.cells #[.int .i64 0] 28 (0, 0))) (k n : Int) (a : Option Addr) (m c : Nat) (hc : w.heap[Cb]? = some (.cells #[.int .i64 k, .int .i64 n, .slice a m c] 37 (0, 0))) (d' : Dv) (err : Int)
    (hXs : ∀ x ∈ X, x < w.heap.size) (hdone : ∀ w1, Below base w w1 → (∀ x ∈ X, x < w1.heap.size) → OwnAt base X D Z cap vs r0 r1 f0 f1 (tick d) w1 → Calls Try.prog 29 #[.pointer (some ⟨D, 0, none⟩), .agg #[.int .i64 k, .int .i64 n, .slice a m c]] w1 (DoPost base X D Z cap d' err w1)) :
    Calls Try.prog 28 #[.pointer (some ⟨D, 0, none⟩), .pointer (some ⟨Eb, 0, none⟩), .pointer (some ⟨Cb, 0, none⟩)] w fun e w' => e = .returned (.tuple #[]) ∧ Below base0 w w' ∧ Away [D, Z, Eb] w w' ∧ w'.heap[Eb]? = some (.cells #[.int .i64 err] 28 (0, 0)) ∧ ∃ vs' q0 q1 g0 g1, OwnAt base X D Z cap vs' q0 q1 g0 g1 d' w' := by
  have hDv := (OA.out (Y := []) (by intro y hy; cases hy) (by intro h; cases h)).is
  have hok := free.ok
  have hl0 := free.left
  have hf0 := free.fault
  have hup := free.up
  have rD := range_of_block OA.blk
  have hi10 : (Try.prog.info? 27).map (·.size) = some 10 := by kernel_rfl
  have e1 : (d.left == 0) = false := by
    rw [Bool.eq_false_iff]
    simp
    omega
  have e2 : decide (0 < d.left) = false := decide_eq_false (by omega)
  have e3 : (d.fault == 0) = false := by
    rw [Bool.eq_false_iff]
    simp
    omega
  have e4 : decide (0 < d.fault) = false := decide_eq_false (by omega)
  have hbZ : base ≤ Z := (OA.row.lt Z rfl).1
  have hDZ := OA.ne
  obtain ⟨t, ht⟩ : ∃ t, IntKind.i64.wrap (d.done + 1) = t := ⟨_, rfl⟩
  have HT := Lib.hid ht
  have HDN := Lib.hid hdone
  have HOA := Lib.hid OA
  have HE := Lib.hid he
  have HC := Lib.hid hc
  have HK := Lib.hid hok
  have HU := Lib.hid hup
  have lD := block_lt OA.blk
  have lE := block_lt he
  have lC := block_lt hc
  clear hdone OA he hc hok hl0 hf0 ht hup
  go_enter Try.func28, Try.ntmps28
  go_wp2_with (refine wpList_load_at (by rfl) 27 (.tmp 6) rfl D 0 (by rfl) (dcs d (.slice (some ⟨Z, 0, none⟩) d.zs.length cap) r0 r1 f0 f1) _ rD Try.underlying27 rfl hi10 ?_)
  refine (dcheck_any d _ _ hDv).mono ?_
  rintro e wa ⟨rfl, hba⟩
  rw [HK.out]
  have gD := blk_on HOA.out.blk hba
  have k6 : wa.cell? ⟨D, 6, none⟩ = some (.bool false) := (cell_of_block gD 6).trans (by rw [← HU.out]; rfl)
  have k7 : wa.cell? ⟨D, 7, none⟩ = some (.int .i64 d.left) := (cell_of_block gD 7).trans rfl
  have k8 : wa.cell? ⟨D, 8, none⟩ = some (.int .i64 d.fault) := (cell_of_block gD 8).trans rfl
  have k9 : wa.cell? ⟨D, 9, none⟩ = some (.int .i64 d.done) := (cell_of_block gD 9).trans rfl
  have z9 := thawed gD
  have ht := HT.out
  have gC := blk_on HC.out hba
  have c0 : wa.cell? ⟨Cb, 0, none⟩ = some (.int .i64 k) := (cell_of_block gC 0).trans rfl
  have c1 : wa.cell? ⟨Cb, 1, none⟩ = some (.int .i64 n) := (cell_of_block gC 1).trans rfl
  have c2 : wa.cell? ⟨Cb, 2, none⟩ = some (.slice a m c) := (cell_of_block gC 2).trans rfl
  clear hDv rD
  have L9 := set_cell (j := 9) gD (.int .i64 t)
  have O1 := (HOA.out.below hba).onD hXD r0 r1 f0 f1 (tick d) rfl L9 (by rw [← ht]; rfl) (HOA.out.below hba).b0 (HOA.out.below hba).b1 (HOA.out.below hba).b2 (HOA.out.below hba).b3
  have hb1 : Below base w (wa.setCell ⟨D, 9, none⟩ (.int .i64 t)) := (hba.mono (by omega)).trans (L9.bel.mono hbD)
  have ha1 : Away [D, Z] w (wa.setCell ⟨D, 9, none⟩ (.int .i64 t)) := (Away.of_below hba).trans (Away.laid L9 (by simp))
  have hcall := HDN.out _ hb1 (fun x hx => Nat.lt_of_lt_of_le (hXs x hx) ha1.size) O1
  have HB1 := Lib.hid hb1
  have HA1 := Lib.hid ha1
  clear L9 O1 hb1 ha1
  go_wp2_with fail
  refine hcall.mono ?_
  rintro e wf ⟨rfl, hbf, haf, vs', q0, q1, g0, g1, O2⟩
  clear hcall
  have hA2 := HA1.out.trans haf
  have gE : wf.heap[Eb]? = some (.cells #[.int .i64 0] 28 (0, 0)) := (hA2.rest Eb lE (by simp; exact ⟨hED, hEZ⟩)).trans HE.out
  have Lf := set_cell (j := 0) gE (.int .i64 err)
  have kE : wf.cell? ⟨Eb, 0, none⟩ = some (.int .i64 0) := (cell_of_block gE 0).trans rfl
  have zE := thawed gE
  have O3 := O2.other Lf hEX hED hEZ
  have HO3 := Lib.hid O3
  have HLF := Lib.hid Lf
  clear k6 k7 k8 k9 z9 c0 c1 c2 gC gD O2 O3 Lf gE
  go_wp2
  go_end0
  exact ⟨rfl, ((HB1.out.trans hbf).mono hb0).trans (HLF.out.bel.mono hbE), (hA2.more (by intro x hx; simp at hx ⊢; omega)).trans (Away.laid HLF.out (by simp)), HLF.out.blk, _, _, _, _, _, HO3.out⟩
set_option linter.unusedSimpArgs false in
set_option maxRecDepth 100000 in
set_option maxHeartbeats 4000000 in
theorem do_any (Y : List Nat) (d : Dv) (cs : List Value) (w : World) (h : DvO Y w cs d) (hY : ∀ y ∈ Y, y < w.heap.size) (free : Free d) (k n : Int) (a : Option Addr) (m c : Nat) (d' : Dv) (err : Int)
    (hd : ∀ base X D Z cap vs r0 r1 f0 f1 w1, Below w.heap.size w w1 → OwnAt base X D Z cap vs r0 r1 f0 f1 (tick d) w1 → D ∈ X → Z ∈ X → (∀ x ∈ X, x < w1.heap.size) → base ≤ D → base ≤ w1.heap.size → Calls Try.prog 29 #[.pointer (some ⟨D, 0, none⟩), .agg #[.int .i64 k, .int .i64 n, .slice a m c]] w1 (DoPost base X D Z cap d' err w1)) :
    Calls Try.prog 12 #[.agg cs.toArray, .agg #[.int .i64 k, .int .i64 n, .slice a m c]] w fun e w' => (∃ cs' er, e = .returned (.tuple #[.agg cs'.toArray, .int .i64 er]) ∧ (er = err ∨ er = 0) ∧ DvO Y w' cs' d') ∧ Below w.heap.size w w' := by
  have hln : 0 < d.zs.length ∧ d.zs.length ≤ 64 := by
    have := free.ok
    unfold devOk at this
    simp only [Bool.and_eq_true, decide_eq_true_eq] at this
    exact this.1.2
  have hown : ∀ wa Eb Cb R4, Below w.heap.size w wa → w.heap.size ≤ Eb → Eb < wa.heap.size → w.heap.size ≤ Cb → Cb < wa.heap.size → w.heap.size ≤ R4 → R4 < wa.heap.size → R4 ≠ Eb → wa.heap[Eb]? = some (.cells #[.int .i64 0] 28 (0, 0)) → wa.heap[Cb]? = some (.cells #[.int .i64 k, .int .i64 n, .slice a m c] 37 (0, 0)) →
      Calls Try.prog 27 #[.agg cs.toArray, .func (.func 28) #[] #[.pointer (some ⟨Eb, 0, none⟩), .pointer (some ⟨Cb, 0, none⟩)]] wa fun e w' => (∃ cs' d'', e = .returned (.agg cs'.toArray) ∧ DvO ([R4, Eb] ++ Y) w' cs' d'' ∧ (d'' = d' ∧ w'.heap[Eb]? = some (.cells #[.int .i64 err] 28 (0, 0)) ∧ w'.heap[R4]? = wa.heap[R4]?)) ∧ Below w.heap.size w w' := by
    intro wa Eb Cb R4 hba hE1 hE2 hC1 hC2 hR1 hR2 hRE gE gC
    refine (own_any Y d cs w wa h hba hln.1 (by omega) 28 #[.pointer (some ⟨Eb, 0, none⟩), .pointer (some ⟨Cb, 0, none⟩)] (enters_of Try.func28 (by kernel_rfl) rfl) ([R4, Eb] ++ Y) (by intro x hx; simp at hx; rcases hx with rfl | rfl | hx; exact ⟨Or.inl hR1, hR2⟩; exact ⟨Or.inl hE1, hE2⟩; exact ⟨Or.inr hx, Nat.lt_of_lt_of_le (hY x hx) hba.size⟩) (fun d'' a => d'' = d' ∧ a.heap[Eb]? = some (.cells #[.int .i64 err] 28 (0, 0)) ∧ a.heap[R4]? = wa.heap[R4]?) (fun d'' a b hJ hk => ⟨hJ.1, (hk Eb (by simp)).trans hJ.2.1, (hk R4 (by simp)).trans hJ.2.2⟩) ?_).mono ?_
    · intro D Z E cap vs r0 r1 f0 f1 w1 hD hE hDE hZE hZ hEl hb1 OA
      have hXs : ∀ x ∈ [D, Z, E] ++ ([R4, Eb] ++ Y), x < w1.heap.size := by
        intro x hx
        have h1 := block_lt OA.blk
        have h2 := (OA.row.lt Z rfl).2
        have h3 := hb1.size
        have h4 := hba.size
        have h5 := hY x
        simp at hx
        rcases hx with rfl | rfl | rfl | rfl | rfl | hx
        · exact h1
        · exact h2
        · exact hEl
        · omega
        · omega
        · have := h5 hx
          omega
      refine (do1_any wa.heap.size w.heap.size ([D, Z, E] ++ ([R4, Eb] ++ Y)) D Z cap vs r0 r1 f0 f1 d w1 Eb Cb OA (by simp) hD hba.size hE1 (by omega) (by omega) (by simp) free (blk_on gE hb1) k n a m c (blk_on gC hb1) d' err hXs ?_).mono ?_
      · intro w2 hb2 hX2 O2
        exact hd wa.heap.size _ D Z cap vs r0 r1 f0 f1 w2 (hba.trans ((hb1.mono hba.size).trans (hb2.mono hba.size))) O2 (by simp) (by simp) hX2 hD (by have := hb1.size; have := hb2.size; omega)
      · rintro e w' ⟨rfl, hb2, ha2, g2, vs', q0, q1, g0, g1, O2⟩
        exact ⟨rfl, hb2, ha2.rest E hEl (by simp; exact ⟨Ne.symm hDE, Ne.symm hZE, by omega⟩), vs', q0, q1, g0, g1, d', O2, rfl, g2, (ha2.rest R4 (by have := hb1.size; omega) (by simp; exact ⟨by omega, by omega, hRE⟩)).trans (hb1.block R4 hR2)⟩
    · rintro e w' ⟨⟨cs', d'', he, hO, hJ⟩, hb⟩
      exact ⟨⟨cs', d'', he, hO, hJ⟩, hba.trans hb⟩
  have HW := Lib.hid hown
  have HH := Lib.hid h
  have hI := h.is
  obtain ⟨vz, r0, r1, f0, f1, rfl, hz, q0, q1, q2, q3⟩ := h
  clear hz q0 q1 q2 q3 hown hd hI hY
  have HCS := Lib.hid (rfl : dcs d vz r0 r1 f0 f1 = dcs d vz r0 r1 f0 f1)
  go_enter Try.func12, Try.ntmps12
  go_wp2_with fail
  refine code_world (fun wa e0 => ?_)
  obtain ⟨g2, g3, g4, g5, hba, hsa⟩ := four_alloc' e0
  clear e0
  obtain ⟨W, hW⟩ : ∃ W, w.heap.size = W := ⟨_, rfl⟩
  have hcall := HW.out wa.drew (W + 3) (W + 1) (W + 2) hba.drew (by omega) (by simp; omega) (by omega) (by simp; omega) (by omega) (by simp; omega) (by omega) (by rw [← hW]; exact g5) (by rw [← hW]; exact g3)
  rw [hW] at g2 g3 g4 g5 ⊢
  have hu := Try.underlying27
  have r2 := range_of_block (w := wa.drew) g2
  have hi10 : (Try.prog.info? 27).map (·.size) = some 10 := by kernel_rfl
  have e0 : wa.drew.cell? ⟨W + 1 + 1 + 1, 0, none⟩ = some (.int .i64 0) := (cell_of_block (w := wa.drew) g5 0).trans rfl
  simp only [show W + 3 = W + 1 + 1 + 1 from rfl, show W + 2 = W + 1 + 1 from rfl] at hcall g4 g5
  clear hsa
  refine wp_region_noPanic ?_
  refine wp_region_held_drew (S := (fun _ => True)) (by kernel_rfl) ?_ (fun hHeld => ?_)
  · trivial
  refine takeL 1 (v := ?_) rfl (by kernel_rfl) (by kernel_rfl) (by kernel_rfl) (fun _ _ _ h => h) (Or.inl ⟨by rfl, ?_⟩) (by assumption) ?_
  rotate_left
  · (intro w hSw; go_simp; try with_reducible rfl)
  (try simp only [Act.put, List.setIfInBounds_toArray, List.set_cons_zero, List.set_cons_succ])
  refine wpAnyH_ready (rs := [0, 3]) (by kernel_rfl) (by simp) ?_
  refine consL 0 rfl ?_ (fun K hK => ?_)
  rotate_left
  · skip
    (rw [if_pos (by rfl)]; refine wp_load_mid 27 _ (by rfl) W 0 (by rfl) (dcs d vz r0 r1 f0 f1) _ r2 hu rfl hi10 ?_)
    refine hK.out _ _ ?_ (fun hHeld => ?_)
    · trivial
    clear hK K
    (try simp only [Act.put, List.setIfInBounds_toArray, List.set_cons_zero, List.set_cons_succ])
    refine wpAnyH_ready (rs := [2, 3]) (by kernel_rfl) (by simp) ?_
    refine consL 2 rfl ?_ (fun K hK => ?_)
    rotate_left
    · skip
      (go_simp; go_at_call 27; refine hcall.mono ?_; rintro e wf ⟨⟨cs2, d2, rfl, hO, rfl, gE, gR⟩, hb2⟩; have kE : wf.cell? ⟨W + 1 + 1 + 1, 0, none⟩ = some (.int .i64 err) := (cell_of_block gE 0).trans rfl; have gR4 := gR.trans g4; have h10 := hO.is.ten; have hone := hO.is.one)
      refine hK.out _ _ ?_ (fun hHeld => ?_)
      · trivial
      clear hK K
      (try simp only [Act.put, List.setIfInBounds_toArray, List.set_cons_zero, List.set_cons_succ])
      refine wpAnyH_ready (rs := [3, 4]) (by kernel_rfl) (by simp) ?_
      refine consL 3 rfl ?_ (fun K hK => ?_)
      rotate_left
      · skip
        go_simp
        refine hK.out _ _ ?_ (fun hHeld => ?_)
        · trivial
        clear hK K
        (try simp only [Act.put, List.setIfInBounds_toArray, List.set_cons_zero, List.set_cons_succ])
        refine stepL 4 rfl (by kernel_rfl) (fun K hK => ?_)
        (rw [if_pos (by rfl)]; refine wp_store_row 27 _ _ (by rfl) (W + 1 + 1) cs2.toArray (by rfl) (by rfl) 27 _ gR4 (by rw [h10]; exact hi10) (by rw [h10]; rfl) hone ?_)
        refine hK.out _ _ ?_ (fun hHeld => ?_)
        · trivial
        clear hK K
        (try simp only [Act.put, List.setIfInBounds_toArray, List.set_cons_zero, List.set_cons_succ])
        generalize e4 : World.setRow wf (W + 1 + 1) _ = wg
        have L4 : Laid wf (W + 1 + 1) cs2.toArray 27 wg := e4 ▸ laid_setRow gR4
        clear e4
        have gE4 := (L4.rest (W + 1 + 1 + 1) (by omega)).trans gE
        have kE4 : wg.cell? ⟨W + 1 + 1 + 1, 0, none⟩ = some (.int .i64 err) := (cell_of_block gE4 0).trans rfl
        have zE4 := thawed gE4
        refine stepL 5 rfl (by kernel_rfl) (fun K hK => ?_)
        go_simp
        refine hK.out _ _ ?_ (fun hHeld => ?_)
        · trivial
        clear hK K
        (try simp only [Act.put, List.setIfInBounds_toArray, List.set_cons_zero, List.set_cons_succ])
        refine wpAnyH_done (by kernel_rfl) ?_ _
        refine NoPanic.normal ?_
        go_wp2
        try simp only [Exit.inBlock, Exit.then]
        first
          | (have Lx := set_cell (j := 0) gE4 (.int .i64 0); refine bodyPost_ret (results_cc rfl _ _ (W + 1 + 1) (W + 1 + 1 + 1) _ cs2.toArray _ 10 (.int .i64 0) rfl ((Lx.rest (W + 1 + 1) (by omega)).trans L4.blk) hu rfl hi10 h10 rfl (load_errno ((cell_of_block Lx.blk 0).trans rfl))) rfl ?_; exact ⟨⟨cs2, 0, rfl, Or.inr rfl, ((hO.away (Away.laid L4 (by simp))).away (Away.laid Lx (by simp))).less (fun y hy => by simp [hy])⟩, hb2.trans ((L4.bel.mono (by omega)).trans (Lx.bel.mono (by omega)))⟩)
          | (have Lx := set_cell (j := 0) gE4 (.int .i64 err); refine bodyPost_ret (results_cc rfl _ _ (W + 1 + 1) (W + 1 + 1 + 1) _ cs2.toArray _ 10 (.int .i64 err) rfl ((Lx.rest (W + 1 + 1) (by omega)).trans L4.blk) hu rfl hi10 h10 rfl (load_errno ((cell_of_block Lx.blk 0).trans rfl))) rfl ?_; exact ⟨⟨cs2, err, rfl, Or.inl rfl, ((hO.away (Away.laid L4 (by simp))).away (Away.laid Lx (by simp))).less (fun y hy => by simp [hy])⟩, hb2.trans ((L4.bel.mono (by omega)).trans (Lx.bel.mono (by omega)))⟩)
      refine consL 4 rfl ?_ (fun K hK => ?_)
      rotate_left
      · skip
        (rw [if_pos (by rfl)]; refine wp_store_row 27 _ _ (by rfl) (W + 1 + 1) cs2.toArray (by rfl) (by rfl) 27 _ gR4 (by rw [h10]; exact hi10) (by rw [h10]; rfl) hone ?_)
        refine hK.out _ _ ?_ (fun hHeld => ?_)
        · trivial
        clear hK K
        (try simp only [Act.put, List.setIfInBounds_toArray, List.set_cons_zero, List.set_cons_succ])
        generalize e4 : World.setRow wf (W + 1 + 1) _ = wg
        have L4 : Laid wf (W + 1 + 1) cs2.toArray 27 wg := e4 ▸ laid_setRow gR4
        clear e4
        have gE4 := (L4.rest (W + 1 + 1 + 1) (by omega)).trans gE
        have kE4 : wg.cell? ⟨W + 1 + 1 + 1, 0, none⟩ = some (.int .i64 err) := (cell_of_block gE4 0).trans rfl
        have zE4 := thawed gE4
        refine stepL 3 rfl (by kernel_rfl) (fun K hK => ?_)
        go_simp
        refine hK.out _ _ ?_ (fun hHeld => ?_)
        · trivial
        clear hK K
        (try simp only [Act.put, List.setIfInBounds_toArray, List.set_cons_zero, List.set_cons_succ])
        refine stepL 5 rfl (by kernel_rfl) (fun K hK => ?_)
        go_simp
        refine hK.out _ _ ?_ (fun hHeld => ?_)
        · trivial
        clear hK K
        (try simp only [Act.put, List.setIfInBounds_toArray, List.set_cons_zero, List.set_cons_succ])
        refine wpAnyH_done (by kernel_rfl) ?_ _
        refine NoPanic.normal ?_
        go_wp2
        try simp only [Exit.inBlock, Exit.then]
        first
          | (have Lx := set_cell (j := 0) gE4 (.int .i64 0); refine bodyPost_ret (results_cc rfl _ _ (W + 1 + 1) (W + 1 + 1 + 1) _ cs2.toArray _ 10 (.int .i64 0) rfl ((Lx.rest (W + 1 + 1) (by omega)).trans L4.blk) hu rfl hi10 h10 rfl (load_errno ((cell_of_block Lx.blk 0).trans rfl))) rfl ?_; exact ⟨⟨cs2, 0, rfl, Or.inr rfl, ((hO.away (Away.laid L4 (by simp))).away (Away.laid Lx (by simp))).less (fun y hy => by simp [hy])⟩, hb2.trans ((L4.bel.mono (by omega)).trans (Lx.bel.mono (by omega)))⟩)
          | (have Lx := set_cell (j := 0) gE4 (.int .i64 err); refine bodyPost_ret (results_cc rfl _ _ (W + 1 + 1) (W + 1 + 1 + 1) _ cs2.toArray _ 10 (.int .i64 err) rfl ((Lx.rest (W + 1 + 1) (by omega)).trans L4.blk) hu rfl hi10 h10 rfl (load_errno ((cell_of_block Lx.blk 0).trans rfl))) rfl ?_; exact ⟨⟨cs2, err, rfl, Or.inl rfl, ((hO.away (Away.laid L4 (by simp))).away (Away.laid Lx (by simp))).less (fun y hy => by simp [hy])⟩, hb2.trans ((L4.bel.mono (by omega)).trans (Lx.bel.mono (by omega)))⟩)
      exact AllReadyH.nil
    refine consL 3 rfl ?_ (fun K hK => ?_)
    rotate_left
    · skip
      go_simp
      refine hK.out _ _ ?_ (fun hHeld => ?_)
      · trivial
      clear hK K
      (try simp only [Act.put, List.setIfInBounds_toArray, List.set_cons_zero, List.set_cons_succ])
      refine stepL 2 rfl (by kernel_rfl) (fun K hK => ?_)
      (go_simp; go_at_call 27; refine hcall.mono ?_; rintro e wf ⟨⟨cs2, d2, rfl, hO, rfl, gE, gR⟩, hb2⟩; have kE : wf.cell? ⟨W + 1 + 1 + 1, 0, none⟩ = some (.int .i64 err) := (cell_of_block gE 0).trans rfl; have gR4 := gR.trans g4; have h10 := hO.is.ten; have hone := hO.is.one)
      refine hK.out _ _ ?_ (fun hHeld => ?_)
      · trivial
      clear hK K
      (try simp only [Act.put, List.setIfInBounds_toArray, List.set_cons_zero, List.set_cons_succ])
      refine stepL 4 rfl (by kernel_rfl) (fun K hK => ?_)
      (rw [if_pos (by rfl)]; refine wp_store_row 27 _ _ (by rfl) (W + 1 + 1) cs2.toArray (by rfl) (by rfl) 27 _ gR4 (by rw [h10]; exact hi10) (by rw [h10]; rfl) hone ?_)
      refine hK.out _ _ ?_ (fun hHeld => ?_)
      · trivial
      clear hK K
      (try simp only [Act.put, List.setIfInBounds_toArray, List.set_cons_zero, List.set_cons_succ])
      generalize e4 : World.setRow wf (W + 1 + 1) _ = wg
      have L4 : Laid wf (W + 1 + 1) cs2.toArray 27 wg := e4 ▸ laid_setRow gR4
      clear e4
      have gE4 := (L4.rest (W + 1 + 1 + 1) (by omega)).trans gE
      have kE4 : wg.cell? ⟨W + 1 + 1 + 1, 0, none⟩ = some (.int .i64 err) := (cell_of_block gE4 0).trans rfl
      have zE4 := thawed gE4
      refine stepL 5 rfl (by kernel_rfl) (fun K hK => ?_)
      go_simp
      refine hK.out _ _ ?_ (fun hHeld => ?_)
      · trivial
      clear hK K
      (try simp only [Act.put, List.setIfInBounds_toArray, List.set_cons_zero, List.set_cons_succ])
      refine wpAnyH_done (by kernel_rfl) ?_ _
      refine NoPanic.normal ?_
      go_wp2
      try simp only [Exit.inBlock, Exit.then]
      first
        | (have Lx := set_cell (j := 0) gE4 (.int .i64 0); refine bodyPost_ret (results_cc rfl _ _ (W + 1 + 1) (W + 1 + 1 + 1) _ cs2.toArray _ 10 (.int .i64 0) rfl ((Lx.rest (W + 1 + 1) (by omega)).trans L4.blk) hu rfl hi10 h10 rfl (load_errno ((cell_of_block Lx.blk 0).trans rfl))) rfl ?_; exact ⟨⟨cs2, 0, rfl, Or.inr rfl, ((hO.away (Away.laid L4 (by simp))).away (Away.laid Lx (by simp))).less (fun y hy => by simp [hy])⟩, hb2.trans ((L4.bel.mono (by omega)).trans (Lx.bel.mono (by omega)))⟩)
        | (have Lx := set_cell (j := 0) gE4 (.int .i64 err); refine bodyPost_ret (results_cc rfl _ _ (W + 1 + 1) (W + 1 + 1 + 1) _ cs2.toArray _ 10 (.int .i64 err) rfl ((Lx.rest (W + 1 + 1) (by omega)).trans L4.blk) hu rfl hi10 h10 rfl (load_errno ((cell_of_block Lx.blk 0).trans rfl))) rfl ?_; exact ⟨⟨cs2, err, rfl, Or.inl rfl, ((hO.away (Away.laid L4 (by simp))).away (Away.laid Lx (by simp))).less (fun y hy => by simp [hy])⟩, hb2.trans ((L4.bel.mono (by omega)).trans (Lx.bel.mono (by omega)))⟩)
    exact AllReadyH.nil
  refine consL 3 rfl ?_ (fun K hK => ?_)
  rotate_left
  · skip
    go_simp
    refine hK.out _ _ ?_ (fun hHeld => ?_)
    · trivial
    clear hK K
    (try simp only [Act.put, List.setIfInBounds_toArray, List.set_cons_zero, List.set_cons_succ])
    refine stepL 0 rfl (by kernel_rfl) (fun K hK => ?_)
    (rw [if_pos (by rfl)]; refine wp_load_mid 27 _ (by rfl) W 0 (by rfl) (dcs d vz r0 r1 f0 f1) _ r2 hu rfl hi10 ?_)
    refine hK.out _ _ ?_ (fun hHeld => ?_)
    · trivial
    clear hK K
    (try simp only [Act.put, List.setIfInBounds_toArray, List.set_cons_zero, List.set_cons_succ])
    refine stepL 2 rfl (by kernel_rfl) (fun K hK => ?_)
    (go_simp; go_at_call 27; refine hcall.mono ?_; rintro e wf ⟨⟨cs2, d2, rfl, hO, rfl, gE, gR⟩, hb2⟩; have kE : wf.cell? ⟨W + 1 + 1 + 1, 0, none⟩ = some (.int .i64 err) := (cell_of_block gE 0).trans rfl; have gR4 := gR.trans g4; have h10 := hO.is.ten; have hone := hO.is.one)
    refine hK.out _ _ ?_ (fun hHeld => ?_)
    · trivial
    clear hK K
    (try simp only [Act.put, List.setIfInBounds_toArray, List.set_cons_zero, List.set_cons_succ])
    refine stepL 4 rfl (by kernel_rfl) (fun K hK => ?_)
    (rw [if_pos (by rfl)]; refine wp_store_row 27 _ _ (by rfl) (W + 1 + 1) cs2.toArray (by rfl) (by rfl) 27 _ gR4 (by rw [h10]; exact hi10) (by rw [h10]; rfl) hone ?_)
    refine hK.out _ _ ?_ (fun hHeld => ?_)
    · trivial
    clear hK K
    (try simp only [Act.put, List.setIfInBounds_toArray, List.set_cons_zero, List.set_cons_succ])
    generalize e4 : World.setRow wf (W + 1 + 1) _ = wg
    have L4 : Laid wf (W + 1 + 1) cs2.toArray 27 wg := e4 ▸ laid_setRow gR4
    clear e4
    have gE4 := (L4.rest (W + 1 + 1 + 1) (by omega)).trans gE
    have kE4 : wg.cell? ⟨W + 1 + 1 + 1, 0, none⟩ = some (.int .i64 err) := (cell_of_block gE4 0).trans rfl
    have zE4 := thawed gE4
    refine stepL 5 rfl (by kernel_rfl) (fun K hK => ?_)
    go_simp
    refine hK.out _ _ ?_ (fun hHeld => ?_)
    · trivial
    clear hK K
    (try simp only [Act.put, List.setIfInBounds_toArray, List.set_cons_zero, List.set_cons_succ])
    refine wpAnyH_done (by kernel_rfl) ?_ _
    refine NoPanic.normal ?_
    go_wp2
    try simp only [Exit.inBlock, Exit.then]
    first
      | (have Lx := set_cell (j := 0) gE4 (.int .i64 0); refine bodyPost_ret (results_cc rfl _ _ (W + 1 + 1) (W + 1 + 1 + 1) _ cs2.toArray _ 10 (.int .i64 0) rfl ((Lx.rest (W + 1 + 1) (by omega)).trans L4.blk) hu rfl hi10 h10 rfl (load_errno ((cell_of_block Lx.blk 0).trans rfl))) rfl ?_; exact ⟨⟨cs2, 0, rfl, Or.inr rfl, ((hO.away (Away.laid L4 (by simp))).away (Away.laid Lx (by simp))).less (fun y hy => by simp [hy])⟩, hb2.trans ((L4.bel.mono (by omega)).trans (Lx.bel.mono (by omega)))⟩)
      | (have Lx := set_cell (j := 0) gE4 (.int .i64 err); refine bodyPost_ret (results_cc rfl _ _ (W + 1 + 1) (W + 1 + 1 + 1) _ cs2.toArray _ 10 (.int .i64 err) rfl ((Lx.rest (W + 1 + 1) (by omega)).trans L4.blk) hu rfl hi10 h10 rfl (load_errno ((cell_of_block Lx.blk 0).trans rfl))) rfl ?_; exact ⟨⟨cs2, err, rfl, Or.inl rfl, ((hO.away (Away.laid L4 (by simp))).away (Away.laid Lx (by simp))).less (fun y hy => by simp [hy])⟩, hb2.trans ((L4.bel.mono (by omega)).trans (Lx.bel.mono (by omega)))⟩)
  exact AllReadyH.nil
end Go.Proofs.Ytdiokmaomglefaa
/- Devices: the commands, done. -/
namespace Go.Proofs.Ytdiokmaomglefaa
open Go Go.RowKit

def DidPost (Y : List Nat) (w : World) (d' : Dv) (e : Ending) (w' : World) : Prop := (∃ cs', e = .returned (.tuple #[.agg cs'.toArray, .int .i64 0]) ∧ DvO Y w' cs' d') ∧ Below w.heap.size w w'
theorem did_of {Y : List Nat} {w : World} {d' : Dv} {e : Ending} {w' : World} (h : (∃ cs' er, e = .returned (.tuple #[.agg cs'.toArray, .int .i64 er]) ∧ (er = 0 ∨ er = 0) ∧ DvO Y w' cs' d') ∧ Below w.heap.size w w') : DidPost Y w d' e w' := by
  obtain ⟨⟨cs', er, he, h0, hd⟩, hb⟩ := h
  obtain rfl : er = 0 := by omega
  exact ⟨⟨cs', he, hd⟩, hb⟩
theorem do_reset (Y : List Nat) (d : Dv) (cs : List Value) (w : World) (h : DvO Y w cs d) (hY : ∀ y ∈ Y, y < w.heap.size) (free : Free d) (j : Nat) (z : Zn) (hz : d.zs[j]? = some z) (hst : z.st = 0 ∨ z.st = 1 ∨ z.st = 2) (a : Option Addr) (m c : Nat) :
    Calls Try.prog 12 #[.agg cs.toArray, .agg #[.int .i64 2, .int .i64 j, .slice a m c]] w (DidPost Y w (setZ (tick d) j ⟨0, [], 0⟩)) :=
  (do_any Y d cs w h hY free 2 j a m c (setZ (tick d) j ⟨0, [], 0⟩) 0 (fun base X D Z cap vs r0 r1 f0 f1 w1 _ OA hD hZ hX hbD hl =>
    done_zoned base X D Z cap _ 0 w1 hl 2 (by decide) j a m c (fun w2 hb2 => zdo_reset base X D Z cap vs r0 r1 f0 f1 (tick d) w2 (OA.below hb2) hZ (fun x hx => Nat.lt_of_lt_of_le (hX x hx) hb2.size) hbD j z hz a m c hst))).mono fun _ _ h => did_of h
theorem do_finish (Y : List Nat) (d : Dv) (cs : List Value) (w : World) (h : DvO Y w cs d) (hY : ∀ y ∈ Y, y < w.heap.size) (free : Free d) (j : Nat) (z : Zn) (hz : d.zs[j]? = some z) (hst : z.st = 0 ∨ z.st = 1) (a : Option Addr) (m c : Nat) :
    Calls Try.prog 12 #[.agg cs.toArray, .agg #[.int .i64 3, .int .i64 j, .slice a m c]] w (DidPost Y w (setZ (tick d) j (finish z))) :=
  (do_any Y d cs w h hY free 3 j a m c (setZ (tick d) j (finish z)) 0 (fun base X D Z cap vs r0 r1 f0 f1 w1 _ OA hD hZ hX hbD hl =>
    done_zoned base X D Z cap _ 0 w1 hl 3 (by decide) j a m c (fun w2 hb2 => zdo_finish base X D Z cap vs r0 r1 f0 f1 (tick d) w2 (OA.below hb2) hZ (fun x hx => Nat.lt_of_lt_of_le (hX x hx) hb2.size) hbD j z hz a m c hst))).mono fun _ _ h => did_of h
theorem do_append (Y : List Nat) (d : Dv) (cs : List Value) (w : World) (h : DvO Y w cs d) (hY : ∀ y ∈ Y, y < w.heap.size) (free : Free d) (j : Nat) (z : Zn) (hz : d.zs[j]? = some z) (ad : Addr) (m c : Nat) (b : List UInt8) (hb : Bt w (.slice (some ad) m c) b) (hst : z.st = 1 ∨ z.st = 0 ∧ ¬ 4 ≤ openN d.zs) (hok : zoneOk d.size z = true) (hne : 0 < b.length) (hroom : (b.length : Int) ≤ d.size - (z.data.length : Int)) (hsz : d.size ≤ 65536) :
    Calls Try.prog 12 #[.agg cs.toArray, .agg #[.int .i64 1, .int .i64 j, .slice (some ad) m c]] w (DidPost Y w (setZ (tick d) j (grow d.size z b))) :=
  (do_any Y d cs w h hY free 1 j (some ad) m c (setZ (tick d) j (grow d.size z b)) 0 (fun base X D Z cap vs r0 r1 f0 f1 w1 hb1 OA hD hZ hX hbD hl =>
    done_zoned base X D Z cap _ 0 w1 hl 1 (by decide) j (some ad) m c (fun w2 hb2 => by
      have hbt := (hb.below hb1).below hb2
      have hX2 : ∀ x ∈ X, x < w2.heap.size := fun x hx => Nat.lt_of_lt_of_le (hX x hx) hb2.size
      rcases hst with hst | ⟨hst, hop⟩
      · exact zdo_append1 base X D Z cap vs r0 r1 f0 f1 (tick d) w2 (OA.below hb2) hZ hX2 hbD j z hz (some ad) m c b hbt ⟨ad, rfl⟩ hok hne hroom hsz hst
      · exact zdo_append0 base X D Z cap vs r0 r1 f0 f1 (tick d) w2 (OA.below hb2) hZ hX2 hbD j z hz (some ad) m c b hbt ⟨ad, rfl⟩ hok hne hroom hsz hst hop))).mono fun _ _ h => did_of h
theorem do_full (Y : List Nat) (d : Dv) (cs : List Value) (w : World) (h : DvO Y w cs d) (hY : ∀ y ∈ Y, y < w.heap.size) (free : Free d) (j : Nat) (z : Zn) (hz : d.zs[j]? = some z) (a : Option Addr) (m c : Nat) (hst : z.st = 0) (hop : 4 ≤ openN d.zs) :
    Calls Try.prog 12 #[.agg cs.toArray, .agg #[.int .i64 1, .int .i64 j, .slice a m c]] w fun e w' => (∃ cs' er, e = .returned (.tuple #[.agg cs'.toArray, .int .i64 er]) ∧ (er = 90 ∨ er = 0) ∧ DvO Y w' cs' (tick d)) ∧ Below w.heap.size w w' :=
  do_any Y d cs w h hY free 1 j a m c (tick d) 90 (fun base X D Z cap vs r0 r1 f0 f1 w1 _ OA hD hZ hX hbD hl =>
    done_zoned base X D Z cap _ 90 w1 hl 1 (by decide) j a m c (fun w2 hb2 => zdo_full base X D Z cap vs r0 r1 f0 f1 (tick d) w2 (OA.below hb2) hZ (fun x hx => Nat.lt_of_lt_of_le (hX x hx) hb2.size) hbD j z hz a m c hst hop))
theorem do_flush (Y : List Nat) (d : Dv) (cs : List Value) (w : World) (h : DvO Y w cs d) (hY : ∀ y ∈ Y, y < w.heap.size) (free : Free d) (n : Int) (a : Option Addr) (m c : Nat) :
    Calls Try.prog 12 #[.agg cs.toArray, .agg #[.int .i64 4, .int .i64 n, .slice a m c]] w (DidPost Y w (flushD (tick d))) := by
  have hln : d.zs.length ≤ 64 := by
    have := free.ok
    unfold devOk at this
    simp only [Bool.and_eq_true, decide_eq_true_eq] at this
    exact this.1.2.2
  exact (do_any Y d cs w h hY free 4 n a m c (flushD (tick d)) 0 (fun base X D Z cap vs r0 r1 f0 f1 w1 _ OA hD hZ hX hbD hl =>
    done_flush base X D Z cap vs r0 r1 f0 f1 (tick d) w1 OA hD hZ hX hbD (by simp only [tick]; omega) n a m c)).mono fun _ _ h => did_of h
end Go.Proofs.Ytdiokmaomglefaa
/- Devices: Limit. -/
namespace Go.Proofs.Ytdiokmaomglefaa
open Go Go.RowKit

def limit (d : Dv) (l f : Int) : Dv := { d with left := l, fault := f }
set_option linter.unusedSimpArgs false in
set_option maxRecDepth 100000 in
set_option maxHeartbeats 4000000 in
theorem limit1_any (base base0 : Nat) (X : List Nat) (D Z cap : Nat) (vs : List Value) (r0 r1 f0 f1 : Value) (d : Dv) (w : World) (Lb Fb : Nat) (l f : Int) (OA : OwnAt base X D Z cap vs r0 r1 f0 f1 d w) (hXD : D ∈ X) (hbD : base ≤ D) (hb0 : base0 ≤ base)
    (hl : w.cell? ⟨Lb, 0, none⟩ = some (.int .i64 l)) (hf : w.cell? ⟨Fb, 0, none⟩ = some (.int .i64 f)) :
    Calls Try.prog 36 #[.pointer (some ⟨D, 0, none⟩), .pointer (some ⟨Lb, 0, none⟩), .pointer (some ⟨Fb, 0, none⟩)] w fun e w' => e = .returned (.tuple #[]) ∧ Below base0 w w' ∧ Away [D] w w' ∧ ∃ vs' q0 q1 g0 g1, OwnAt base X D Z cap vs' q0 q1 g0 g1 (limit d l f) w' := by
  have k7 : w.cell? ⟨D, 7, none⟩ = some (.int .i64 d.left) := (cell_of_block OA.blk 7).trans rfl
  have k8 : w.cell? ⟨D, 8, none⟩ = some (.int .i64 d.fault) := (cell_of_block OA.blk 8).trans rfl
  have z := thawed OA.blk
  have HOA := Lib.hid OA
  clear OA
  go_enter Try.func36, Try.ntmps36
  go_wp2_with fail
  refine wp_region_noPanic ?_
  refine wp_region_held_drew (S := (fun _ => True)) (by kernel_rfl) ?_ (fun hHeld => ?_)
  · trivial
  refine takeL 0 (v := ?_) rfl (by kernel_rfl) (by kernel_rfl) (by kernel_rfl) (fun _ _ _ h => h) (Or.inl ⟨by rfl, ?_⟩) (by assumption) ?_
  rotate_left
  · (intro w hSw; go_simp; try with_reducible rfl)
  (try simp only [Act.put, List.setIfInBounds_toArray, List.set_cons_zero, List.set_cons_succ])
  refine takeL 1 (v := ?_) rfl (by kernel_rfl) (by kernel_rfl) (by kernel_rfl) (fun _ _ _ h => h) (Or.inl ⟨by rfl, ?_⟩) (by assumption) ?_
  rotate_left
  · (intro w hSw; go_simp; try with_reducible rfl)
  (try simp only [Act.put, List.setIfInBounds_toArray, List.set_cons_zero, List.set_cons_succ])
  refine wpAnyH_ready (rs := [2, 3]) (by kernel_rfl) (by simp) ?_
  refine consL 2 rfl ?_ (fun K hK => ?_)
  rotate_left
  · skip
    go_simp
    refine hK.out _ _ ?_ (fun hHeld => ?_)
    · trivial
    clear hK K
    (try simp only [Act.put, List.setIfInBounds_toArray, List.set_cons_zero, List.set_cons_succ])
    refine takeL 4 (v := ?_) rfl (by kernel_rfl) (by kernel_rfl) (by kernel_rfl) (fun _ _ _ h => h) (Or.inl ⟨by rfl, ?_⟩) (by assumption) ?_
    rotate_left
    · (intro w hSw; go_simp; try with_reducible rfl)
    (try simp only [Act.put, List.setIfInBounds_toArray, List.set_cons_zero, List.set_cons_succ])
    refine takeL 5 (v := ?_) rfl (by kernel_rfl) (by kernel_rfl) (by kernel_rfl) (fun _ _ _ h => h) (Or.inl ⟨by rfl, ?_⟩) (by assumption) ?_
    rotate_left
    · (intro w hSw; go_simp; try with_reducible rfl)
    (try simp only [Act.put, List.setIfInBounds_toArray, List.set_cons_zero, List.set_cons_succ])
    refine wpAnyH_ready (rs := [3, 6]) (by kernel_rfl) (by simp) ?_
    refine consL 3 rfl ?_ (fun K hK => ?_)
    rotate_left
    · skip
      go_simp
      refine hK.out _ _ ?_ (fun hHeld => ?_)
      · trivial
      clear hK K
      (try simp only [Act.put, List.setIfInBounds_toArray, List.set_cons_zero, List.set_cons_succ])
      refine stepL 6 rfl (by kernel_rfl) (fun K hK => ?_)
      go_simp
      refine hK.out _ _ ?_ (fun hHeld => ?_)
      · trivial
      clear hK K
      (try simp only [Act.put, List.setIfInBounds_toArray, List.set_cons_zero, List.set_cons_succ])
      refine takeL 7 (v := ?_) rfl (by kernel_rfl) (by kernel_rfl) (by kernel_rfl) (fun _ _ _ h => h) (Or.inl ⟨by rfl, ?_⟩) (by assumption) ?_
      rotate_left
      · (intro w hSw; go_simp; try with_reducible rfl)
      (try simp only [Act.put, List.setIfInBounds_toArray, List.set_cons_zero, List.set_cons_succ])
      refine takeL 8 (v := ?_) rfl (by kernel_rfl) (by kernel_rfl) (by kernel_rfl) (fun _ _ _ h => h) (Or.inl ⟨by rfl, ?_⟩) (by assumption) ?_
      rotate_left
      · (intro w hSw; go_simp; try with_reducible rfl)
      (try simp only [Act.put, List.setIfInBounds_toArray, List.set_cons_zero, List.set_cons_succ])
      refine stepL 9 rfl (by kernel_rfl) (fun K hK => ?_)
      go_simp
      refine hK.out _ _ ?_ (fun hHeld => ?_)
      · trivial
      clear hK K
      (try simp only [Act.put, List.setIfInBounds_toArray, List.set_cons_zero, List.set_cons_succ])
      refine wpAnyH_done (by kernel_rfl) ?_ _
      refine NoPanic.normal ?_
      have O1 := HOA.out.below (Below.refl _ w).drew
      have La := set_cell (w := w.drew) (j := 7) O1.blk (.int .i64 l)
      have Lb := La.trans (set_cell (j := 8) La.blk (.int .i64 f))
      have O2 := O1.onD hXD r0 r1 f0 f1 (limit d l f) rfl Lb rfl O1.b0 O1.b1 O1.b2 O1.b3
      have HO := Lib.hid O2
      have HL := Lib.hid Lb
      clear O1 La Lb O2 k7 k8 z hl hf
      go_wp2
      go_end0
      exact ⟨rfl, (Below.refl _ w).drew.trans (HL.out.bel.mono (by omega)), (Away.of_below (Below.refl _ w).drew).trans (Away.laid HL.out (by simp)), _, _, _, _, _, HO.out⟩
    refine consL 6 rfl ?_ (fun K hK => ?_)
    rotate_left
    · skip
      go_simp
      refine hK.out _ _ ?_ (fun hHeld => ?_)
      · trivial
      clear hK K
      (try simp only [Act.put, List.setIfInBounds_toArray, List.set_cons_zero, List.set_cons_succ])
      refine stepL 3 rfl (by kernel_rfl) (fun K hK => ?_)
      go_simp
      refine hK.out _ _ ?_ (fun hHeld => ?_)
      · trivial
      clear hK K
      (try simp only [Act.put, List.setIfInBounds_toArray, List.set_cons_zero, List.set_cons_succ])
      refine takeL 7 (v := ?_) rfl (by kernel_rfl) (by kernel_rfl) (by kernel_rfl) (fun _ _ _ h => h) (Or.inl ⟨by rfl, ?_⟩) (by assumption) ?_
      rotate_left
      · (intro w hSw; go_simp; try with_reducible rfl)
      (try simp only [Act.put, List.setIfInBounds_toArray, List.set_cons_zero, List.set_cons_succ])
      refine takeL 8 (v := ?_) rfl (by kernel_rfl) (by kernel_rfl) (by kernel_rfl) (fun _ _ _ h => h) (Or.inl ⟨by rfl, ?_⟩) (by assumption) ?_
      rotate_left
      · (intro w hSw; go_simp; try with_reducible rfl)
      (try simp only [Act.put, List.setIfInBounds_toArray, List.set_cons_zero, List.set_cons_succ])
      refine stepL 9 rfl (by kernel_rfl) (fun K hK => ?_)
      go_simp
      refine hK.out _ _ ?_ (fun hHeld => ?_)
      · trivial
      clear hK K
      (try simp only [Act.put, List.setIfInBounds_toArray, List.set_cons_zero, List.set_cons_succ])
      refine wpAnyH_done (by kernel_rfl) ?_ _
      refine NoPanic.normal ?_
      have O1 := HOA.out.below (Below.refl _ w).drew
      have La := set_cell (w := w.drew) (j := 7) O1.blk (.int .i64 l)
      have Lb := La.trans (set_cell (j := 8) La.blk (.int .i64 f))
      have O2 := O1.onD hXD r0 r1 f0 f1 (limit d l f) rfl Lb rfl O1.b0 O1.b1 O1.b2 O1.b3
      have HO := Lib.hid O2
      have HL := Lib.hid Lb
      clear O1 La Lb O2 k7 k8 z hl hf
      go_wp2
      go_end0
      exact ⟨rfl, (Below.refl _ w).drew.trans (HL.out.bel.mono (by omega)), (Away.of_below (Below.refl _ w).drew).trans (Away.laid HL.out (by simp)), _, _, _, _, _, HO.out⟩
    exact AllReadyH.nil
  refine consL 3 rfl ?_ (fun K hK => ?_)
  rotate_left
  · skip
    go_simp
    refine hK.out _ _ ?_ (fun hHeld => ?_)
    · trivial
    clear hK K
    (try simp only [Act.put, List.setIfInBounds_toArray, List.set_cons_zero, List.set_cons_succ])
    refine stepL 2 rfl (by kernel_rfl) (fun K hK => ?_)
    go_simp
    refine hK.out _ _ ?_ (fun hHeld => ?_)
    · trivial
    clear hK K
    (try simp only [Act.put, List.setIfInBounds_toArray, List.set_cons_zero, List.set_cons_succ])
    refine takeL 4 (v := ?_) rfl (by kernel_rfl) (by kernel_rfl) (by kernel_rfl) (fun _ _ _ h => h) (Or.inl ⟨by rfl, ?_⟩) (by assumption) ?_
    rotate_left
    · (intro w hSw; go_simp; try with_reducible rfl)
    (try simp only [Act.put, List.setIfInBounds_toArray, List.set_cons_zero, List.set_cons_succ])
    refine takeL 5 (v := ?_) rfl (by kernel_rfl) (by kernel_rfl) (by kernel_rfl) (fun _ _ _ h => h) (Or.inl ⟨by rfl, ?_⟩) (by assumption) ?_
    rotate_left
    · (intro w hSw; go_simp; try with_reducible rfl)
    (try simp only [Act.put, List.setIfInBounds_toArray, List.set_cons_zero, List.set_cons_succ])
    refine stepL 6 rfl (by kernel_rfl) (fun K hK => ?_)
    go_simp
    refine hK.out _ _ ?_ (fun hHeld => ?_)
    · trivial
    clear hK K
    (try simp only [Act.put, List.setIfInBounds_toArray, List.set_cons_zero, List.set_cons_succ])
    refine takeL 7 (v := ?_) rfl (by kernel_rfl) (by kernel_rfl) (by kernel_rfl) (fun _ _ _ h => h) (Or.inl ⟨by rfl, ?_⟩) (by assumption) ?_
    rotate_left
    · (intro w hSw; go_simp; try with_reducible rfl)
    (try simp only [Act.put, List.setIfInBounds_toArray, List.set_cons_zero, List.set_cons_succ])
    refine takeL 8 (v := ?_) rfl (by kernel_rfl) (by kernel_rfl) (by kernel_rfl) (fun _ _ _ h => h) (Or.inl ⟨by rfl, ?_⟩) (by assumption) ?_
    rotate_left
    · (intro w hSw; go_simp; try with_reducible rfl)
    (try simp only [Act.put, List.setIfInBounds_toArray, List.set_cons_zero, List.set_cons_succ])
    refine stepL 9 rfl (by kernel_rfl) (fun K hK => ?_)
    go_simp
    refine hK.out _ _ ?_ (fun hHeld => ?_)
    · trivial
    clear hK K
    (try simp only [Act.put, List.setIfInBounds_toArray, List.set_cons_zero, List.set_cons_succ])
    refine wpAnyH_done (by kernel_rfl) ?_ _
    refine NoPanic.normal ?_
    have O1 := HOA.out.below (Below.refl _ w).drew
    have La := set_cell (w := w.drew) (j := 7) O1.blk (.int .i64 l)
    have Lb := La.trans (set_cell (j := 8) La.blk (.int .i64 f))
    have O2 := O1.onD hXD r0 r1 f0 f1 (limit d l f) rfl Lb rfl O1.b0 O1.b1 O1.b2 O1.b3
    have HO := Lib.hid O2
    have HL := Lib.hid Lb
    clear O1 La Lb O2 k7 k8 z hl hf
    go_wp2
    go_end0
    exact ⟨rfl, (Below.refl _ w).drew.trans (HL.out.bel.mono (by omega)), (Away.of_below (Below.refl _ w).drew).trans (Away.laid HL.out (by simp)), _, _, _, _, _, HO.out⟩
  exact AllReadyH.nil
set_option linter.unusedSimpArgs false in
set_option maxRecDepth 100000 in
set_option maxHeartbeats 4000000 in
theorem limit_any (Y : List Nat) (d : Dv) (cs : List Value) (w : World) (h : DvO Y w cs d) (hY : ∀ y ∈ Y, y < w.heap.size) (hln : 0 < d.zs.length) (hlm : d.zs.length ≤ 1000000) (l f : Int) :
    Calls Try.prog 19 #[.agg cs.toArray, .int .i64 l, .int .i64 f] w fun e w' => (∃ cs', e = .returned (.agg cs'.toArray) ∧ DvO Y w' cs' (limit d l f)) ∧ Below w.heap.size w w' := by
  have hown : ∀ wa Lb Fb R, Below w.heap.size w wa → w.heap.size ≤ Lb → Lb < wa.heap.size → w.heap.size ≤ Fb → Fb < wa.heap.size → w.heap.size ≤ R → R < wa.heap.size → wa.cell? ⟨Lb, 0, none⟩ = some (.int .i64 l) → wa.cell? ⟨Fb, 0, none⟩ = some (.int .i64 f) →
      Calls Try.prog 27 #[.agg cs.toArray, .func (.func 36) #[] #[.pointer (some ⟨Lb, 0, none⟩), .pointer (some ⟨Fb, 0, none⟩)]] wa fun e w' => (∃ cs' d'', e = .returned (.agg cs'.toArray) ∧ DvO ([R] ++ Y) w' cs' d'' ∧ (d'' = limit d l f ∧ w'.heap[R]? = wa.heap[R]?)) ∧ Below w.heap.size w w' := by
    intro wa Lb Fb R hba hL1 hL2 hF1 hF2 hR1 hR2 gL gF
    refine (own_any Y d cs w wa h hba hln hlm 36 #[.pointer (some ⟨Lb, 0, none⟩), .pointer (some ⟨Fb, 0, none⟩)] (enters_of Try.func36 (by kernel_rfl) rfl) ([R] ++ Y) (by intro x hx; simp at hx; rcases hx with rfl | hx; exact ⟨Or.inl hR1, hR2⟩; exact ⟨Or.inr hx, Nat.lt_of_lt_of_le (hY x hx) hba.size⟩) (fun d'' a => d'' = limit d l f ∧ a.heap[R]? = wa.heap[R]?) (fun d'' a b hJ hk => ⟨hJ.1, (hk R (by simp)).trans hJ.2⟩) ?_).mono ?_
    · intro D Z E cap vs r0 r1 f0 f1 w1 hD hE hDE hZE hZ hEl hb1 OA
      refine (limit1_any wa.heap.size w.heap.size ([D, Z, E] ++ ([R] ++ Y)) D Z cap vs r0 r1 f0 f1 d w1 Lb Fb l f OA (by simp) hD hba.size ((hb1.cell (p := ⟨Lb, 0, none⟩) hL2).trans gL) ((hb1.cell (p := ⟨Fb, 0, none⟩) hF2).trans gF)).mono ?_
      rintro e w' ⟨rfl, hb2, ha2, vs', q0, q1, g0, g1, O2⟩
      exact ⟨rfl, hb2, ha2.rest E hEl (by simp; exact Ne.symm hDE), vs', q0, q1, g0, g1, _, O2, rfl, (ha2.rest R (by have := hb1.size; omega) (by simp; omega)).trans (hb1.block R hR2)⟩
    · rintro e w' ⟨⟨cs', d'', he, hO, hJ⟩, hb⟩
      exact ⟨⟨cs', d'', he, hO, hJ⟩, hba.trans hb⟩
  have HW := Lib.hid hown
  obtain ⟨vz, r0, r1, f0, f1, rfl, hz, q0, q1, q2, q3⟩ := h
  unfold dcs at *
  clear hY
  clear hz q0 q1 q2 q3 hown
  obtain ⟨W, hW⟩ : ∃ W, w.heap.size = W := ⟨_, rfl⟩
  have HWW := Lib.hid hW
  have hi10 : (Try.prog.info? 27).map (·.size) = some 10 := by kernel_rfl
  clear hW
  go_enter Try.func19, Try.ntmps19
  go_wp2_with fail
  refine calls_world (fun wa e0 => ?_)
  obtain ⟨g2, g3, g4, g5, hba, hsa⟩ := four_alloc' e0
  clear e0
  have hW := HWW.out
  refine (HW.out wa (w.heap.size + 1) (w.heap.size + 2) (w.heap.size + 3) hba (by omega) (by omega) (by omega) (by omega) (by omega) (by omega) ((cell_of_block g3 0).trans rfl) ((cell_of_block g4 0).trans rfl)).mono ?_
  rintro e wf ⟨⟨cs2, d2, rfl, hO, rfl, gR⟩, hb2⟩
  have gR4 := gR.trans g5
  have h10 := hO.is.ten
  have hone := hO.is.one
  rw [hW] at gR4 hO ⊢
  have gR4 := (show wf.heap[W + 1 + 1 + 1]? = _ from gR4)
  have hO := (show DvO ([W + 1 + 1 + 1] ++ Y) wf cs2 (limit d l f) from hO)
  clear g2 g3 g4 g5 hba hsa gR hW
  go_wp2_with (refine wpList_lay (by rfl) 27 (.tmp 6) (.tmp 9) rfl (W + 1 + 1 + 1) cs2.toArray (by rfl) (by rfl) 27 _ gR4 10 hi10 h10 rfl hone ?_; intro w9 hL9)
  refine bodyPost_ret (results_cell_row rfl _ _ (W + 1 + 1 + 1) _ _ _ _ rfl hL9.blk Try.underlying27 rfl (by rw [h10]; exact hi10)) rfl ?_
  exact ⟨⟨cs2, rfl, (hO.away (Away.laid hL9 (by simp))).less (fun y hy => by simp [hy])⟩, hb2.trans (hL9.bel.mono (by have := HWW.out; omega))⟩
end Go.Proofs.Ytdiokmaomglefaa
/- Devices: New. -/
namespace Go.Proofs.Ytdiokmaomglefaa
open Go Go.RowKit

def z128 : List UInt8 := List.replicate 128 0
def newQ (n : Nat) (s : Int) (q : Int) : Dv := ⟨s, List.replicate n ⟨0, [], 0⟩, if 1 ≤ q then z128 else [], if 2 ≤ q then z128 else [], [], [], false, -1, -1, 0⟩
def newD (n : Nat) (s : Int) : Dv := ⟨s, List.replicate n ⟨0, [], 0⟩, z128, z128, [], [], false, -1, -1, 0⟩
theorem zcs_new (n : Nat) : (madeCells #[Value.int .i64 0, .slice none 0 0, .int .i64 0] (n * 3)).toList = zcs (List.replicate n ⟨0, [], 0⟩) (List.replicate n (.slice none 0 0)) := by
  apply List.ext_getElem?
  intro i
  have hl := zcs_len (List.replicate n ⟨0, [], 0⟩) (List.replicate n (.slice none 0 0)) (by simp)
  rw [List.length_replicate] at hl
  by_cases h : i < n * 3
  · have h1 : (madeCells #[Value.int .i64 0, .slice none 0 0, .int .i64 0] (n * 3)).toList[i]? = some (#[Value.int .i64 0, .slice none 0 0, .int .i64 0][i % 3]!) := by
      simp [madeCells, h]
    obtain ⟨c0, c1, c2⟩ := zcs_at (List.replicate n ⟨0, [], 0⟩) (List.replicate n (.slice none 0 0)) (by simp) (i / 3) ⟨0, [], 0⟩ (.slice none 0 0) (by rw [List.getElem?_replicate, if_pos (by omega)]) (by rw [List.getElem?_replicate, if_pos (by omega)])
    rw [h1]
    rcases (by omega : i % 3 = 0 ∨ i % 3 = 1 ∨ i % 3 = 2) with e | e | e
    · rw [e, show i = i / 3 * 3 by omega, c0]; rfl
    · rw [e, show i = i / 3 * 3 + 1 by omega, c1]; rfl
    · rw [e, show i = i / 3 * 3 + 2 by omega, c2]; rfl
  · rw [List.getElem?_eq_none (by rw [Array.length_toList, size_madeCells]; omega), List.getElem?_eq_none (by omega)]
/-- What stands between two rounds of New. -/
structure NewLoop (Y : List Nat) (R D : Nat) (n : Nat) (s q : Int) (ez : Obj) (v r0 r1 : Value) (w wr : World) : Prop where
  blk : wr.heap[D]? = some (.cells (dcs (newQ n s q) v r0 r1 (.slice none 0 0) (.slice none 0 0)).toArray 27 (0, 0))
  dv : DvO ([R, D] ++ Y) wr (dcs (newQ n s q) v r0 r1 (.slice none 0 0) (.slice none 0 0)) (newQ n s q)
  bel : Below w.heap.size w wr
  res : wr.heap[R]? = some ez
set_option linter.unusedSimpArgs false in
set_option maxRecDepth 100000 in
set_option maxHeartbeats 2000000 in
theorem new_any (Y : List Nat) (n : Nat) (s : Int) (hn1 : 1 ≤ n) (hn2 : n ≤ 64) (hs1 : 1 ≤ s) (hs2 : s ≤ 65536) (w : World) (hY : ∀ y ∈ Y, y < w.heap.size) :
    Calls Try.prog 9 #[.int .i64 n, .int .i64 s] w fun e w' => (∃ cs, e = .returned (.tuple #[.agg cs.toArray, .int .i64 0]) ∧ DvO Y w' cs (newD n s)) ∧ Below w.heap.size w w' := by
  have d1 : decide ((n : Int) < 1) = false := decide_eq_false (by omega)
  have d2 : decide (64 < (n : Int)) = false := decide_eq_false (by omega)
  have d3 : decide (s < 1) = false := decide_eq_false (by omega)
  have d4 : decide (65536 < s) = false := decide_eq_false (by omega)
  have d5 : decide (64 < n) = false := decide_eq_false (by omega)
  have d6 : decide (n < 1) = false := decide_eq_false (by omega)
  have d7 : decide (n = 0) = false := decide_eq_false (by omega)
  have i0 : (0 : Int) ≤ (n : Int) := by omega
  obtain ⟨t0, hi, hz0, hz1, hz2⟩ := info_parts info_zone
  have HI := Lib.hid hi
  have HYY := Lib.hid hY
  clear hY
  go_enter Try.func9, Try.ntmps9
  go_wp2_with (at_make
               refine wpList_make_full _ rfl (.tmp 24) (.tmp 24) 23 rfl (w.heap.size + 1) 52 t0 (.agg #[.int .i64 0, .slice none 0 0, .int .i64 0]) 3 Try.underlying23 HI.out hz0 hz1 .i64 .i64 n n n rfl rfl rfl rfl (by rw [hz2]; omega) (by unfold maxLen; omega) (by simp) ?_
               intro w2 hown2 hg2
               clear hi)
  refine code_world (fun wl e0 => ?_)
  obtain ⟨gD, hbl, hsl⟩ := one_alloc e0
  clear e0
  obtain ⟨oz, hoz⟩ : ∃ o, o = Obj.cells #[Value.int .i64 0, .slice none 0 0, .slice none 0 0, .slice none 0 0, .slice none 0 0, .slice none 0 0, .bool false, .int .i64 0, .int .i64 0, .int .i64 0] 27 := ⟨_, rfl⟩
  rw [← hoz] at hg2
  have hb1 : Below (w.alloc oz).heap.size (w.alloc oz) w2 := (Below.refl _ _).grown hg2 (Nat.le_refl _) (fun k hk => by cases hk)
  have gR := blk_on (blk_on (heap_alloc_new w oz) hb1) hbl
  have hb2 : Below w.heap.size w w2 := ((Below.refl _ w).alloc (Nat.le_refl _) _).trans (hb1.mono (by simp))
  have hsz2 : w.heap.size + 1 ≤ w2.heap.size := by have := hb1.size; simpa using this
  obtain ⟨Z, hZ⟩ : ∃ Z, Z = w.heap.size + 1 := ⟨_, rfl⟩
  have hrow : w2.ownsRow (w.heap.size + 1) 52 3 (.slice (some ⟨Z, 0, none⟩) n n) n (zcs (List.replicate n ⟨0, [], 0⟩) (List.replicate n (.slice none 0 0))) := by
    rw [← zcs_new, hZ]
    simpa [Value.cells] using hown2
  have hZ2 := (hrow.lt Z rfl).2
  have hb3 := hb2.trans (hbl.mono hb2.size)
  have HZS : ZsO ([w.heap.size, w2.heap.size] ++ Y) wl (.slice (some ⟨Z, 0, none⟩) n n) (List.replicate n ⟨0, [], 0⟩) := by
    refine ⟨List.replicate n (.slice none 0 0), ⟨by simp, fun j z u hz hu => ?_⟩, ?_, fun _ b o n c hv => ?_⟩
    · obtain ⟨_, rfl⟩ := List.mem_replicate.1 (List.mem_of_getElem? hz)
      obtain ⟨_, rfl⟩ := List.mem_replicate.1 (List.mem_of_getElem? hu)
      exact BtO.nil _ _
    · have := own_rw (owns_below hrow hbl)
      rw [List.length_replicate]
      exact this
    · cases hv
      intro hx
      have := HYY.out Z
      simp at hx
      rcases hx with h | h | h
      · omega
      · omega
      · have := this h
        omega
  have NL : NewLoop Y w.heap.size w2.heap.size n s 0 oz (.slice (some ⟨Z, 0, none⟩) n n) (.slice none 0 0) (.slice none 0 0) w wl := by
    refine ⟨by rw [gD, hZ]; simp [dcs, newQ], ⟨_, _, _, _, _, rfl, HZS, ?_, ?_, BtO.nil _ _, BtO.nil _ _⟩, hb3, gR⟩
    · simp only [newQ, show ¬ (1 : Int) ≤ 0 by omega, if_false]
      exact BtO.nil _ _
    · simp only [newQ, show ¬ (2 : Int) ≤ 0 by omega, if_false]
      exact BtO.nil _ _
  have HNL := Lib.hid NL
  have HOZ := Lib.hid hoz
  obtain ⟨D, hD⟩ : ∃ D, w2.heap.size = D := ⟨_, rfl⟩
  obtain ⟨R, hR⟩ : ∃ R, w.heap.size = R := ⟨_, rfl⟩
  rw [hD, hR] at HNL
  rw [hR] at hsz2
  rw [hD] at hsz2
  rw [hD, hR]
  have HR := Lib.hid hR
  clear gD hbl hsl hoz hg2 hb1 gR hb2 hZ hrow hZ2 hb3 HZS NL hD hR hown2 HI
  go_loopw [7, 27] (fun _ i wr => ∃ q : Int, (q = 0 ∨ q = 1 ∨ q = 2) ∧ i = .int .i64 q ∧ ∃ v r0 r1, NewLoop Y R D n s q oz v r0 r1 w wr) (fun _ i _ => 2 - (intOf i).toNat)
  case atStart => exact ⟨0, Or.inl rfl, rfl, _, _, _, HNL.out⟩
  case round =>
    clear HNL
    obtain ⟨q, hq, rfl, v, r0, r1, HO⟩ := hrel
    have HH := Lib.hid HO
    have gD := HO.blk
    clear HO
    rcases hq with rfl | rfl | rfl
    · have lD := block_lt gD
      have kD := (cell_of_block gD 2).trans rfl
      simp only [dcs] at kD
      obtain ⟨i0', hi, hz0', hz1', hz2'⟩ := info_parts info_u8
      go_wp2_with (at_make
                   refine wpList_make_full _ rfl (.const (.int .i64 128)) (.const (.int .i64 128)) 24 rfl wr.heap.size 5 i0' (.int .u8 0) 1 Try.underlying24 hi hz0' hz1' .i64 .i64 128 128 128 rfl rfl rfl rfl (by rw [hz2']; omega) (by unfold maxLen; omega) (Nat.le_refl _) ?_
                   intro w5 hown5 hg5
                   have hb5 : Below wr.heap.size wr w5 := (Below.refl _ wr).grown hg5 (Nat.le_refl _) (fun k hk => by cases hk)
                   have k5 := (hb5.cell (p := ⟨D, 2, none⟩) lD).trans kD
                   have g5 := blk_on gD hb5
                   have z5 := thawed g5
                   clear hi hz0' hz1' hz2' kD)
      have hbt : BtO ([R, D] ++ Y) w5 (.slice (some ⟨wr.heap.size, 0, none⟩) 128 128) z128 := by
        have h1 : w5.ownsRow wr.heap.size 5 1 (.slice (some ⟨wr.heap.size, 0, none⟩) 128 128) z128.length (z128.map bv) := by
          have h2 : w5.ownsRow wr.heap.size 5 1 (.slice (some ⟨wr.heap.size, 0, none⟩) 128 128) 128 (madeCells #[.int .u8 0] 128).toList := hown5
          rw [toList_madeCells_one] at h2
          simpa [z128, bv] using h2
        refine BtO.own h1 (by simp [z128]) ?_
        intro x hx
        have h1 := block_lt HH.out.res
        have h2 := HYY.out x
        have h3 := HH.out.bel.size
        simp at hx
        rcases hx with rfl | rfl | hx
        · exact h1
        · exact lD
        · have := h2 hx
          omega
      have L5 := set_cell (j := 2) g5 (.slice (some ⟨wr.heap.size, 0, none⟩) 128 128)
      have NL : NewLoop Y R D n s 1 oz v (.slice (some ⟨wr.heap.size, 0, none⟩) 128 128) r1 w (w5.setCell ⟨D, 2, none⟩ (.slice (some ⟨wr.heap.size, 0, none⟩) 128 128)) := by
        have ha5 : Away ([R, D] ++ Y) wr w5 := Away.of_below hb5
        have haL : Away ([R, D] ++ Y) w5 (w5.setCell ⟨D, 2, none⟩ (.slice (some ⟨wr.heap.size, 0, none⟩) 128 128)) := Away.laid L5 (by simp)
        obtain ⟨v', q0, q1, q2, q3, e, hz, c0, c1, c2, c3⟩ := HH.out.dv
        simp only [dcs, List.cons.injEq, true_and] at e
        obtain ⟨rfl, rfl, rfl, rfl, rfl, _⟩ := e
        have hR := HR.out
        refine ⟨by rw [L5.blk]; rfl, ⟨_, _, _, _, _, rfl, (hz.away ha5).away haL, (hbt.away haL), ((c1.away ha5).away haL), BtO.nil _ _, BtO.nil _ _⟩, HH.out.bel.trans ((hb5.mono HH.out.bel.size).trans (L5.bel.mono (by omega))), ?_⟩
        exact (L5.rest R (by omega)).trans (blk_on HH.out.res hb5)
      have HN := Lib.hid NL
      clear NL L5 hbt hown5 hg5 hb5 g5 z5 k5 gD
      go_roundw
      case rel => exact ⟨1, Or.inr (Or.inl rfl), rfl, _, _, _, HN.out⟩
      case measure => simp [intOf]
    · have lD := block_lt gD
      have kD := (cell_of_block gD 3).trans rfl
      simp only [dcs] at kD
      obtain ⟨i0', hi, hz0', hz1', hz2'⟩ := info_parts info_u8
      go_wp2_with (at_make
                   refine wpList_make_full _ rfl (.const (.int .i64 128)) (.const (.int .i64 128)) 24 rfl wr.heap.size 5 i0' (.int .u8 0) 1 Try.underlying24 hi hz0' hz1' .i64 .i64 128 128 128 rfl rfl rfl rfl (by rw [hz2']; omega) (by unfold maxLen; omega) (Nat.le_refl _) ?_
                   intro w5 hown5 hg5
                   have hb5 : Below wr.heap.size wr w5 := (Below.refl _ wr).grown hg5 (Nat.le_refl _) (fun k hk => by cases hk)
                   have k5 := (hb5.cell (p := ⟨D, 3, none⟩) lD).trans kD
                   have g5 := blk_on gD hb5
                   have z5 := thawed g5
                   clear hi hz0' hz1' hz2' kD)
      have hbt : BtO ([R, D] ++ Y) w5 (.slice (some ⟨wr.heap.size, 0, none⟩) 128 128) z128 := by
        have h1 : w5.ownsRow wr.heap.size 5 1 (.slice (some ⟨wr.heap.size, 0, none⟩) 128 128) z128.length (z128.map bv) := by
          have h2 : w5.ownsRow wr.heap.size 5 1 (.slice (some ⟨wr.heap.size, 0, none⟩) 128 128) 128 (madeCells #[.int .u8 0] 128).toList := hown5
          rw [toList_madeCells_one] at h2
          simpa [z128, bv] using h2
        refine BtO.own h1 (by simp [z128]) ?_
        intro x hx
        have h1 := block_lt HH.out.res
        have h2 := HYY.out x
        have h3 := HH.out.bel.size
        simp at hx
        rcases hx with rfl | rfl | hx
        · exact h1
        · exact lD
        · have := h2 hx
          omega
      have L5 := set_cell (j := 3) g5 (.slice (some ⟨wr.heap.size, 0, none⟩) 128 128)
      have NL : NewLoop Y R D n s 2 oz v r0 (.slice (some ⟨wr.heap.size, 0, none⟩) 128 128) w (w5.setCell ⟨D, 3, none⟩ (.slice (some ⟨wr.heap.size, 0, none⟩) 128 128)) := by
        have ha5 : Away ([R, D] ++ Y) wr w5 := Away.of_below hb5
        have haL : Away ([R, D] ++ Y) w5 (w5.setCell ⟨D, 3, none⟩ (.slice (some ⟨wr.heap.size, 0, none⟩) 128 128)) := Away.laid L5 (by simp)
        obtain ⟨v', q0, q1, q2, q3, e, hz, c0, c1, c2, c3⟩ := HH.out.dv
        simp only [dcs, List.cons.injEq, true_and] at e
        obtain ⟨rfl, rfl, rfl, rfl, rfl, _⟩ := e
        have hR := HR.out
        refine ⟨by rw [L5.blk]; rfl, ⟨_, _, _, _, _, rfl, (hz.away ha5).away haL, ((c0.away ha5).away haL), (hbt.away haL), BtO.nil _ _, BtO.nil _ _⟩, HH.out.bel.trans ((hb5.mono HH.out.bel.size).trans (L5.bel.mono (by omega))), ?_⟩
        exact (L5.rest R (by omega)).trans (blk_on HH.out.res hb5)
      have HN := Lib.hid NL
      clear NL L5 hbt hown5 hg5 hb5 g5 z5 k5 gD
      go_roundw
      case rel => exact ⟨2, Or.inr (Or.inr rfl), rfl, _, _, _, HN.out⟩
      case measure => simp [intOf]
    · have HD := Lib.hid HH.out.dv
      have hten := HH.out.dv.is.ten
      have hone := HH.out.dv.is.one
      have gR := HH.out.res
      have hR := HR.out
      have hbl := HH.out.bel
      rw [HOZ.out] at gR
      have hi10 : (Try.prog.info? 27).map (·.size) = some 10 := by kernel_rfl
      have rD := range_of_block gD
      have HBL := Lib.hid hbl
      have HRR := Lib.hid hR
      have HTEN := Lib.hid hten
      clear HH HOZ HR gD hR hbl hten
      go_wp2_with (first
        | refine wpList_load_at (by rfl) 27 (.tmp 6) rfl D 0 (by rfl) (dcs (newQ n s 2) v r0 r1 (.slice none 0 0) (.slice none 0 0)) _ rD Try.underlying27 rfl hi10 ?_
        | (refine wpList_lay (by rfl) 27 (.tmp 4) (.tmp 35) rfl R (dcs (newQ n s 2) v r0 r1 (.slice none 0 0) (.slice none 0 0)).toArray (by rfl) (by rfl) 27 _ gR 10 hi10 HTEN.out rfl hone ?_; intro w9 hL9))
      refine bodyPost_ret (results_ct rfl _ _ R _ _ _ 10 rfl hL9.blk Try.underlying27 rfl hi10 HTEN.out) rfl ?_
      exact ⟨⟨_, rfl, (HD.out.away (Away.laid hL9 (by simp))).less (fun y hy => by simp [hy])⟩, HBL.out.trans (hL9.bel.mono (by have := HRR.out; omega))⟩
end Go.Proofs.Ytdiokmaomglefaa
