import Derived.Test.YtdiokmaomglefaaGTwo
import Derived.Test.YtdiokmaomglefaaGPolySum
import Derived.Sort.Grow
import Derived.Lib.MinMax
/- cmp.Compare, cmp.Or, and how frames are ordered. -/

namespace Go.Proofs.Ytdiokmaomglefaa
open Go Go.RowKit

def cmpI (x y : Int) : Int := if x < y then -1 else if y < x then 1 else 0
def or3 (a b c : Int) : Int := if a = 0 then if b = 0 then c else b else a
def fdCmp (x y : Fd) : Int := or3 (cmpI x.hd.seq y.hd.seq) (cmpI x.zone y.zone) (cmpI x.at_ y.at_)
def encF (f : Fd) : List Value := [.int .i64 f.hd.kind, .int .i64 f.hd.lba, .int .i64 f.hd.len, .int .i64 f.hd.seq, .int .i64 f.hd.epoch, .int .i64 (f.zone : Int), .int .i64 (f.at_ : Int)]
theorem fdCmp_lt (x y : Fd) : decide (fdCmp x y < 0) = fdLt x y := by
  unfold fdCmp or3 cmpI fdLt
  apply decide_eq_decide.2
  split <;> split <;> (try split) <;> (try split) <;> (try split) <;> (try split) <;> omega
theorem isnan_any (x : Int) (w : World) : Calls Try.prog 81 #[.int .i64 x] w fun e w' => e = .returned (.bool false) ∧ w' = w := by
  have hne : (x != x) = false := by simp
  go_enter Try.func81, Try.ntmps81
  go_wp2
  go_ret
  exact ⟨rfl, rfl⟩
theorem compare_any (x y : Int) (w : World) : Calls Try.prog 56 #[.int .i64 x, .int .i64 y] w fun e w' => e = .returned (.int .i64 (cmpI x y)) ∧ w' = w := by
  obtain ⟨c, hc⟩ : ∃ c, cmpI x y = c := ⟨_, rfl⟩
  rw [hc]
  have HC := Lib.hid hc
  clear hc
  go_enter Try.func56, Try.ntmps56
  go_wp2_with fail
  refine (isnan_any x w).mono ?_
  rintro e w1 ⟨rfl, h1⟩
  obtain rfl := h1
  go_wp2_with fail
  refine (isnan_any y w1).mono ?_
  rintro e w2 ⟨rfl, h2⟩
  obtain rfl := h2
  by_cases h1 : x < y
  · have d1 : decide (x < y) = true := decide_eq_true h1
    have hcc : c = -1 := by rw [← HC.out]; unfold cmpI; rw [if_pos h1]
    subst hcc
    clear HC
    go_wp2
    go_ret
    exact ⟨rfl, rfl⟩
  · have d1 : decide (x < y) = false := decide_eq_false h1
    by_cases h2 : y < x
    · have d2 : decide (y < x) = true := decide_eq_true h2
      have hcc : c = 1 := by rw [← HC.out]; unfold cmpI; rw [if_neg h1, if_pos h2]
      subst hcc
      clear HC
      go_wp2
      go_ret
      exact ⟨rfl, rfl⟩
    · have d2 : decide (y < x) = false := decide_eq_false h2
      have hcc : c = 0 := by rw [← HC.out]; unfold cmpI; rw [if_neg h1, if_neg h2]
      subst hcc
      clear HC
      go_wp2
      go_ret
      exact ⟨rfl, rfl⟩
theorem or3_any (a b c : Int) (g : Nat) (w : World) (h0 : w.cell? ⟨g, 0, none⟩ = some (.int .i64 a)) (h1 : w.cell? ⟨g, 1, none⟩ = some (.int .i64 b)) (h2 : w.cell? ⟨g, 2, none⟩ = some (.int .i64 c)) :
    Calls Try.prog 55 #[.slice (some ⟨g, 0, none⟩) 3 3] w fun e w' => e = .returned (.int .i64 (or3 a b c)) ∧ w' = w := by
  obtain ⟨r, hr⟩ : ∃ r, or3 a b c = r := ⟨_, rfl⟩
  rw [hr]
  have HR := Lib.hid hr
  clear hr
  go_enter Try.func55, Try.ntmps55
  go_wp2
  go_loopw [5, 8] (fun _ i wr => wr = w ∧ (i = .int .i64 0 ∨ i = .int .i64 1 ∧ a = 0 ∨ i = .int .i64 2 ∧ a = 0 ∧ b = 0 ∨ i = .int .i64 3 ∧ a = 0 ∧ b = 0 ∧ c = 0)) (fun _ i _ => 3 - (intOf i).toNat)
  case atStart => exact ⟨rfl, .inl rfl⟩
  case round =>
    obtain ⟨hw, hj⟩ := hrel
    obtain rfl := hw
    rcases hj with hj | ⟨hj, ha⟩ | ⟨hj, ha, hb⟩ | ⟨hj, ha, hb, hc⟩ <;> obtain rfl := hj
    · by_cases hv : a = 0
      · have hq : (a != 0) = false := by simp [hv]
        go_wp2
        exact ⟨by simp [hv], by simp [intOf]⟩
      · have hq : (a != 0) = true := by simp [hv]
        have hrr : r = a := by rw [← HR.out]; unfold or3; simp [hv]
        subst hrr
        clear HR
        go_wp2
        refine bodyPost_ret (results_tmp rfl _ _ _) rfl ?_
        exact ⟨rfl, rfl⟩
    · by_cases hv : b = 0
      · have hq : (b != 0) = false := by simp [hv]
        go_wp2
        exact ⟨by simp [ha, hv], by simp [intOf]⟩
      · have hq : (b != 0) = true := by simp [hv]
        have hrr : r = b := by rw [← HR.out]; unfold or3; simp [hv, ha]
        subst hrr
        clear HR
        go_wp2
        refine bodyPost_ret (results_tmp rfl _ _ _) rfl ?_
        exact ⟨rfl, rfl⟩
    · by_cases hv : c = 0
      · have hq : (c != 0) = false := by simp [hv]
        go_wp2
        exact ⟨by simp [ha, hb, hv], by simp [intOf]⟩
      · have hq : (c != 0) = true := by simp [hv]
        have hrr : r = c := by rw [← HR.out]; unfold or3; simp [ha, hb]
        subst hrr
        clear HR
        go_wp2
        refine bodyPost_ret (results_tmp rfl _ _ _) rfl ?_
        exact ⟨rfl, rfl⟩
    · have hrr : r = 0 := by rw [← HR.out]; unfold or3; simp [ha, hb, hc]
      subst hrr
      clear HR
      go_wp2
      go_ret
      exact ⟨rfl, rfl⟩
theorem grow3 (W : World) (a b c : Obj) : (((W.alloc a).alloc b).drew).alloc c = Go.Sort.grow (W.drewN 1) (#[a, b] ++ #[c]) := by
  rw [Go.Sort.alloc_eq_grow _ c, Go.Sort.alloc_eq_grow _ b, Go.Sort.alloc_eq_grow _ a, Go.Sort.grow_grow]
  show Go.Sort.grow (Go.Sort.grow W.drew (#[a] ++ #[b])) #[c] = _
  rw [Go.Sort.grow_grow]
  rfl
set_option linter.unusedSimpArgs false in
set_option maxRecDepth 100000 in
set_option maxHeartbeats 2000000 in
theorem against_any (x y : Fd) (w : World) : Calls Try.prog 35 #[.agg (encF x).toArray, .agg (encF y).toArray] w fun e w' => e = .returned (.int .i64 (fdCmp x y)) ∧ ∃ q os, w' = Go.Sort.grow (w.drewN q) os := by
  obtain ⟨r, hr⟩ : ∃ r, fdCmp x y = r := ⟨_, rfl⟩
  rw [hr]
  unfold fdCmp at hr
  obtain ⟨c1, e1⟩ : ∃ c, cmpI x.hd.seq y.hd.seq = c := ⟨_, rfl⟩
  obtain ⟨c2, e2⟩ : ∃ c, cmpI x.zone y.zone = c := ⟨_, rfl⟩
  obtain ⟨c3, e3⟩ : ∃ c, cmpI x.at_ y.at_ = c := ⟨_, rfl⟩
  rw [e1, e2, e3] at hr
  have HR := Lib.hid hr
  have C1 := fun W => compare_any x.hd.seq y.hd.seq W
  have C2 := fun W => compare_any (x.zone : Int) (y.zone : Int) W
  have C3 := fun W => compare_any (x.at_ : Int) (y.at_ : Int) W
  rw [e1] at C1
  rw [e2] at C2
  rw [e3] at C3
  clear hr e1 e2 e3
  simp only [encF]
  go_enter Try.func35, Try.ntmps35
  go_wp2
  refine code_world (fun w1 e1 => ?_)
  obtain ⟨g1, g2, hb0, hs0⟩ := two_alloc e1
  have HW := Lib.hid e1
  clear e1
  have x3 : ∀ wz, Below w1.heap.size w1 wz → wz.cell? ⟨w.heap.size, 3, none⟩ = some (.int .i64 x.hd.seq) := fun wz hz => (hz.cell (p := ⟨w.heap.size, 3, none⟩) (block_lt g1)).trans ((cell_of_block g1 3).trans rfl)
  have x5 : ∀ wz, Below w1.heap.size w1 wz → wz.cell? ⟨w.heap.size, 5, none⟩ = some (.int .i64 (x.zone : Int)) := fun wz hz => (hz.cell (p := ⟨w.heap.size, 5, none⟩) (block_lt g1)).trans ((cell_of_block g1 5).trans rfl)
  have x6 : ∀ wz, Below w1.heap.size w1 wz → wz.cell? ⟨w.heap.size, 6, none⟩ = some (.int .i64 (x.at_ : Int)) := fun wz hz => (hz.cell (p := ⟨w.heap.size, 6, none⟩) (block_lt g1)).trans ((cell_of_block g1 6).trans rfl)
  have y3 : ∀ wz, Below w1.heap.size w1 wz → wz.cell? ⟨w.heap.size + 1, 3, none⟩ = some (.int .i64 y.hd.seq) := fun wz hz => (hz.cell (p := ⟨w.heap.size + 1, 3, none⟩) (block_lt g2)).trans ((cell_of_block g2 3).trans rfl)
  have y5 : ∀ wz, Below w1.heap.size w1 wz → wz.cell? ⟨w.heap.size + 1, 5, none⟩ = some (.int .i64 (y.zone : Int)) := fun wz hz => (hz.cell (p := ⟨w.heap.size + 1, 5, none⟩) (block_lt g2)).trans ((cell_of_block g2 5).trans rfl)
  have y6 : ∀ wz, Below w1.heap.size w1 wz → wz.cell? ⟨w.heap.size + 1, 6, none⟩ = some (.int .i64 (y.at_ : Int)) := fun wz hz => (hz.cell (p := ⟨w.heap.size + 1, 6, none⟩) (block_lt g2)).trans ((cell_of_block g2 6).trans rfl)
  clear g1 g2 hs0 hb0
  refine wp_region_noPanic ?_
  refine wp_region_held_drew (S := (fun wz => Below w1.heap.size w1 wz)) (by kernel_rfl) ?_ (fun hHeld => ?_)
  · exact below_self_drew _
  refine takeL 0 (v := ?_) rfl (by kernel_rfl) (by kernel_rfl) (by kernel_rfl) (fun _ _ _ h => h) (Or.inl ⟨by rfl, ?_⟩) (by assumption) ?_
  rotate_left
  · (intro w hSw; go_simp; try with_reducible rfl)
  (try simp only [Act.put, List.setIfInBounds_toArray, List.set_cons_zero, List.set_cons_succ])
  refine takeL 1 (v := ?_) rfl (by kernel_rfl) (by kernel_rfl) (by kernel_rfl) (fun _ _ _ h => h) (Or.inl ⟨by rfl, ?_⟩) (by assumption) ?_
  rotate_left
  · (intro w hSw; go_simp; try with_reducible rfl)
  (try simp only [Act.put, List.setIfInBounds_toArray, List.set_cons_zero, List.set_cons_succ])
  refine takeL 2 (v := ?_) rfl (by kernel_rfl) (by kernel_rfl) (by kernel_rfl) (fun _ _ _ h => h) (Or.inl ⟨by rfl, ?_⟩) (by assumption) ?_
  rotate_left
  · (intro w hSw; go_simp; try with_reducible rfl)
  (try simp only [Act.put, List.setIfInBounds_toArray, List.set_cons_zero, List.set_cons_succ])
  refine takeL 3 (v := ?_) rfl (by kernel_rfl) (by kernel_rfl) (by kernel_rfl) (fun _ _ _ h => h) (Or.inl ⟨by rfl, ?_⟩) (by assumption) ?_
  rotate_left
  · (intro w hSw; go_simp; try with_reducible rfl)
  (try simp only [Act.put, List.setIfInBounds_toArray, List.set_cons_zero, List.set_cons_succ])
  refine takeL 4 (v := ?_) rfl (by kernel_rfl) (by kernel_rfl) (by kernel_rfl) (fun _ _ _ h => h) (Or.inl ⟨by rfl, ?_⟩) (by assumption) ?_
  rotate_left
  · (intro w hSw; go_simp; try with_reducible rfl)
  (try simp only [Act.put, List.setIfInBounds_toArray, List.set_cons_zero, List.set_cons_succ])
  refine takeL 5 (v := ?_) rfl (by kernel_rfl) (by kernel_rfl) (by kernel_rfl) (fun _ _ _ h => h) (Or.inl ⟨by rfl, ?_⟩) (by assumption) ?_
  rotate_left
  · (intro w hSw; go_simp; try with_reducible rfl)
  (try simp only [Act.put, List.setIfInBounds_toArray, List.set_cons_zero, List.set_cons_succ])
  refine takeL 7 (v := ?_) rfl (by kernel_rfl) (by kernel_rfl) (by kernel_rfl) (fun _ _ _ h => h) (Or.inl ⟨by rfl, ?_⟩) (by assumption) ?_
  rotate_left
  · (intro w hSw; go_simp; try with_reducible rfl)
  (try simp only [Act.put, List.setIfInBounds_toArray, List.set_cons_zero, List.set_cons_succ])
  refine takeL 8 (v := ?_) rfl (by kernel_rfl) (by kernel_rfl) (by kernel_rfl) (fun _ _ _ h => h) (Or.inl ⟨by rfl, ?_⟩) (by assumption) ?_
  rotate_left
  · (intro w hSw; go_simp; try with_reducible rfl)
  (try simp only [Act.put, List.setIfInBounds_toArray, List.set_cons_zero, List.set_cons_succ])
  refine takeL 9 (v := ?_) rfl (by kernel_rfl) (by kernel_rfl) (by kernel_rfl) (fun _ _ _ h => h) (Or.inl ⟨by rfl, ?_⟩) (by assumption) ?_
  rotate_left
  · (intro w hSw; go_simp; try with_reducible rfl)
  (try simp only [Act.put, List.setIfInBounds_toArray, List.set_cons_zero, List.set_cons_succ])
  refine takeL 10 (v := ?_) rfl (by kernel_rfl) (by kernel_rfl) (by kernel_rfl) (fun _ _ _ h => h) (Or.inl ⟨by rfl, ?_⟩) (by assumption) ?_
  rotate_left
  · (intro w hSw; go_simp; try with_reducible rfl)
  (try simp only [Act.put, List.setIfInBounds_toArray, List.set_cons_zero, List.set_cons_succ])
  refine takeL 12 (v := ?_) rfl (by kernel_rfl) (by kernel_rfl) (by kernel_rfl) (fun _ _ _ h => h) (Or.inl ⟨by rfl, ?_⟩) (by assumption) ?_
  rotate_left
  · (intro w hSw; go_simp; try with_reducible rfl)
  (try simp only [Act.put, List.setIfInBounds_toArray, List.set_cons_zero, List.set_cons_succ])
  refine takeL 13 (v := ?_) rfl (by kernel_rfl) (by kernel_rfl) (by kernel_rfl) (fun _ _ _ h => h) (Or.inl ⟨by rfl, ?_⟩) (by assumption) ?_
  rotate_left
  · (intro w hSw; go_simp; try with_reducible rfl)
  (try simp only [Act.put, List.setIfInBounds_toArray, List.set_cons_zero, List.set_cons_succ])
  refine takeL 14 (v := ?_) rfl (by kernel_rfl) (by kernel_rfl) (by kernel_rfl) (fun _ _ _ h => h) (Or.inl ⟨by rfl, ?_⟩) (by assumption) ?_
  rotate_left
  · (intro w hSw; go_simp; try with_reducible rfl)
  (try simp only [Act.put, List.setIfInBounds_toArray, List.set_cons_zero, List.set_cons_succ])
  refine takeL 15 (v := ?_) rfl (by kernel_rfl) (by kernel_rfl) (by kernel_rfl) (fun _ _ _ h => h) (Or.inl ⟨by rfl, ?_⟩) (by assumption) ?_
  rotate_left
  · (intro w hSw; go_simp; try with_reducible rfl)
  (try simp only [Act.put, List.setIfInBounds_toArray, List.set_cons_zero, List.set_cons_succ])
  refine stepL 6 rfl (by kernel_rfl) (fun K hK => ?_)
  (go_simp; go_at_call 56; refine (C1 _).mono ?_; rintro e wq ⟨rfl, hwq⟩; obtain rfl := hwq)
  refine hK.out _ _ ?_ (fun hHeld => ?_)
  · assumption
  clear hK K
  (try simp only [Act.put, List.setIfInBounds_toArray, List.set_cons_zero, List.set_cons_succ])
  refine stepL 11 rfl (by kernel_rfl) (fun K hK => ?_)
  (go_simp; go_at_call 56; refine (C2 _).mono ?_; rintro e wq ⟨rfl, hwq⟩; obtain rfl := hwq)
  refine hK.out _ _ ?_ (fun hHeld => ?_)
  · assumption
  clear hK K
  (try simp only [Act.put, List.setIfInBounds_toArray, List.set_cons_zero, List.set_cons_succ])
  refine stepL 16 rfl (by kernel_rfl) (fun K hK => ?_)
  (go_simp; go_at_call 56; refine (C3 _).mono ?_; rintro e wq ⟨rfl, hwq⟩; obtain rfl := hwq)
  refine hK.out _ _ ?_ (fun hHeld => ?_)
  · assumption
  clear hK K
  (try simp only [Act.put, List.setIfInBounds_toArray, List.set_cons_zero, List.set_cons_succ])
  refine stepL 17 rfl (by kernel_rfl) (fun K hK => ?_)
  go_simp
  refine hK.out _ _ ?_ (fun hHeld => ?_)
  · exact (below_self_drew w1).alloc (Nat.le_refl _) _
  clear hK K
  (try simp only [Act.put, List.setIfInBounds_toArray, List.set_cons_zero, List.set_cons_succ])
  refine stepL 18 rfl (by kernel_rfl) (fun K hK => ?_)
  (go_simp; go_at_call 55; refine (or3_any c1 c2 c3 w1.heap.size _ (cell_of_block (heap_alloc_new w1.drew (.cells #[.int .i64 c1, .int .i64 c2, .int .i64 c3] 3)) 0) (cell_of_block (heap_alloc_new w1.drew (.cells #[.int .i64 c1, .int .i64 c2, .int .i64 c3] 3)) 1) (cell_of_block (heap_alloc_new w1.drew (.cells #[.int .i64 c1, .int .i64 c2, .int .i64 c3] 3)) 2)).mono ?_; rintro e wq ⟨rfl, hwq⟩; obtain rfl := hwq)
  refine hK.out _ _ ?_ (fun hHeld => ?_)
  · exact (below_self_drew w1).alloc (Nat.le_refl _) _
  clear hK K
  (try simp only [Act.put, List.setIfInBounds_toArray, List.set_cons_zero, List.set_cons_succ])
  refine takeL 19 (v := ?_) rfl (by kernel_rfl) (by kernel_rfl) (by kernel_rfl) (fun _ _ _ h => h) (Or.inl ⟨by rfl, ?_⟩) (by assumption) ?_
  rotate_left
  · (intro w hSw; go_simp; try with_reducible rfl)
  (try simp only [Act.put, List.setIfInBounds_toArray, List.set_cons_zero, List.set_cons_succ])
  refine wpAnyH_done (by kernel_rfl) ?_ _
  refine NoPanic.normal ?_
  go_wp2
  go_ret
  have hgr := grow3 w (.cells #[.int .i64 x.hd.kind, .int .i64 x.hd.lba, .int .i64 x.hd.len, .int .i64 x.hd.seq, .int .i64 x.hd.epoch, .int .i64 (x.zone : Int), .int .i64 (x.at_ : Int)] 77) (.cells #[.int .i64 y.hd.kind, .int .i64 y.hd.lba, .int .i64 y.hd.len, .int .i64 y.hd.seq, .int .i64 y.hd.epoch, .int .i64 (y.zone : Int), .int .i64 (y.at_ : Int)] 77) (.cells #[.int .i64 c1, .int .i64 c2, .int .i64 c3] 3)
  rw [← HW.out] at hgr
  exact ⟨by show Ending.returned (.int .i64 (or3 c1 c2 c3)) = _; rw [HR.out], 1, _, hgr⟩
end Go.Proofs.Ytdiokmaomglefaa
/- log.Next: the first number above theirs. -/
namespace Go.Proofs.Ytdiokmaomglefaa
open Go Go.RowKit

def fcells (l : List Fd) : List Value := l.flatMap encF
theorem fcells_len (l : List Fd) : (fcells l).length = l.length * 7 := by
  induction l with
  | nil => rfl
  | cons p l ih =>
    have : fcells (p :: l) = encF p ++ fcells l := rfl
    rw [this, List.length_append, ih]
    simp [encF]
    omega
theorem fcells_snoc (l : List Fd) (p : Fd) : fcells (l ++ [p]) = fcells l ++ encF p := by simp [fcells]
theorem fcells_at (l : List Fd) (j : Nat) (f : Fd) (h : l[j]? = some f) (m : Nat) (u : Value) (hu : (encF f)[m]? = some u) : (fcells l)[j * 7 + m]? = some u := by
  induction l generalizing j with
  | nil => simp at h
  | cons p l ih =>
    have e : fcells (p :: l) = encF p ++ fcells l := rfl
    have hp : (encF p).length = 7 := rfl
    rw [e]
    cases j with
    | zero =>
      simp at h
      subst h
      have hm : m < (encF p).length := (List.getElem?_eq_some_iff.1 hu).1
      rw [List.getElem?_append_left (by omega)]
      simpa using hu
    | succ j =>
      rw [List.getElem?_append_right (by omega), show (j + 1) * 7 + m - (encF p).length = j * 7 + m by omega]
      exact ih j (by simpa using h)
theorem range_part {w : World} {b off k : Nat} {cs ds : List Value} (h : w.rangeAt b off cs) (hp : ∀ m u, ds[m]? = some u → cs[k + m]? = some u) : w.rangeAt b (off + k) ds := fun m u hm => by
  rw [Nat.add_assoc]
  exact h (k + m) u (hp m u hm)
theorem next_snoc (l : List Fd) (f : Fd) : nextOf (l ++ [f]) = max (nextOf l) (f.hd.seq + 1) := by simp [nextOf]
theorem next_nn (l : List Fd) : 0 ≤ nextOf l := by
  unfold nextOf
  have : ∀ (l : List Fd) (n : Int), 0 ≤ n → 0 ≤ l.foldl (fun n f => max n (f.hd.seq + 1)) n := by
    intro l
    induction l with
    | nil => intro n h; exact h
    | cons f l ih => intro n h; exact ih _ (by show 0 ≤ max n (f.hd.seq + 1); omega)
  exact this l 0 (by omega)
theorem next_le (l : List Fd) (m : Int) (hm : 0 ≤ m) (h : ∀ f ∈ l, f.hd.seq + 1 ≤ m) : nextOf l ≤ m := by
  unfold nextOf
  have : ∀ (l : List Fd) (n : Int), n ≤ m → (∀ f ∈ l, f.hd.seq + 1 ≤ m) → l.foldl (fun n f => max n (f.hd.seq + 1)) n ≤ m := by
    intro l
    induction l with
    | nil => intro n h _; exact h
    | cons f l ih => intro n h h2; exact ih _ (by have := h2 f List.mem_cons_self; show max n (f.hd.seq + 1) ≤ m; omega) (fun g hg => h2 g (List.mem_cons_of_mem _ hg))
  exact this l 0 hm h
set_option linter.unusedSimpArgs false in
set_option maxRecDepth 100000 in
set_option maxHeartbeats 2000000 in
theorem next_any (a : Option Addr) (cap : Nat) (l : List Fd) (hs : ∀ f ∈ l, 0 ≤ f.hd.seq ∧ f.hd.seq ≤ 4611686018427387903) (w : World) (h : Rw 7 w (.slice a l.length cap) l.length (fcells l)) :
    Calls Try.prog 17 #[.slice a l.length cap] w fun e w' => e = .returned (.int .i64 (nextOf l)) ∧ Below w.heap.size w w' := by
  have hbig := h.len.2.2
  unfold maxLen at hbig
  obtain ⟨c, hc⟩ : ∃ c : List Fd → Int, c = nextOf := ⟨_, rfl⟩
  have HC := Lib.hid (show ∀ (j : Nat) (f : Fd), l[j]? = some f → c (l.take (j + 1)) = max (c (l.take j)) (f.hd.seq + 1) from fun j f hf => by
    rw [hc, List.take_add_one, hf]
    exact next_snoc _ _)
  have HN := Lib.hid (show ∀ j, 0 ≤ c (l.take j) ∧ c (l.take j) ≤ 4611686018427387904 from fun j => by
    rw [hc]
    exact ⟨next_nn _, next_le _ _ (by omega) (fun f hf => by have := (hs f (List.mem_of_mem_take hf)).2; omega)⟩)
  have H0 := Lib.hid (show c (l.take 0) = 0 by rw [hc]; rfl)
  have HH := Lib.hid h
  have HS := Lib.hid hs
  rw [← hc]
  clear hc h hs
  go_enter Try.func17, Try.ntmps17
  go_wp2
  go_loopw [2, 4, 7] (fun t _ i wr => ∃ j : Nat, j ≤ l.length ∧ i = .int .i64 j ∧ t = .int .i64 (c (l.take j)) ∧ Below w.heap.size w wr) (fun _ _ i _ => l.length - (intOf i).toNat)
  case atStart => exact ⟨0, by omega, rfl, congrArg (Value.int .i64) (by rw [H0.out]), Below.refl _ _⟩
  case round =>
    obtain ⟨j, hj, rfl, rfl, hbr⟩ := hrel
    by_cases hlt : j < l.length
    · have hz : l[j]? = some l[j] := List.getElem?_eq_getElem hlt
      obtain ⟨b, off, rfl, hblt, hr0⟩ := (HH.out.below hbr).where (by omega)
      generalize hy : l[j] = y at hz
      have hr : wr.rangeAt b (off + j * 7) (encF y) := range_part hr0 (fcells_at l j y hz)
      have hcj := HC.out j y hz
      have hn := HN.out j
      have hsq := HS.out y (by rw [← hy]; exact List.getElem_mem _)
      have HCJ := Lib.hid hcj
      clear hz hy hr0 hcj
      generalize hct : c (l.take j) = ct at *
      have HCT := Lib.hid hct
      obtain ⟨mx, hmx⟩ : ∃ mx, max ct (y.hd.seq + 1) = mx := ⟨_, rfl⟩
      have HM := Lib.hid hmx
      have e1 : IntKind.i64.wrap (y.hd.seq + 1) = y.hd.seq + 1 := IntWalk.i64_in _ (by omega)
      have i1 : (0 : Int) ≤ (j : Int) := by omega
      have i2 : (j : Int) < (l.length : Int) := by omega
      have hi7 : (Try.prog.info? 48).map (·.size) = some 7 := by kernel_rfl
      clear hct
      simp only [encF] at hr
      go_wp2_with (refine wpList_load_at (by rfl) 48 (.tmp 9) rfl b (off + j * 7) (by rfl) _ _ hr Try.underlying48 rfl hi7 ?_)
      go_roundw
      case rel =>
        have hbw := (Below.refl wr.heap.size wr).alloc (Nat.le_refl _) (.cells #[.int .i64 y.hd.kind, .int .i64 y.hd.lba, .int .i64 y.hd.len, .int .i64 y.hd.seq, .int .i64 y.hd.epoch, .int .i64 (y.zone : Int), .int .i64 (y.at_ : Int)] 48)
        refine ⟨j + 1, by omega, congrArg (Value.int .i64) (by omega), congrArg (Value.int .i64) (by rw [HCJ.out, HM.out]), hbr.trans (hbw.mono hbr.size)⟩
      case measure =>
        show l.length - ((j : Int) + 1).toNat < l.length - (j : Int).toNat
        omega
    · obtain rfl : j = l.length := by omega
      rw [List.take_length]
      go_wp2
      go_ret
      exact ⟨rfl, hbr⟩
end Go.Proofs.Ytdiokmaomglefaa
