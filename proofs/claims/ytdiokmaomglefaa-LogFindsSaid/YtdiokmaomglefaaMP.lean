import Derived.Test.YtdiokmaomglefaaGBlock
import Derived.Test.YtdiokmaomglefaaMA
import Derived.Test.YtdiokmaomglefaaMR
/- A number of 64 bits out of eight bytes: poly.word. -/
namespace Go.Proofs.Ytdiokmaomglefaa
open Go Go.RowKit

theorem bits_u64_nn (o : BinOp) (x y : Int) : 0 ≤ bits o .u64 x y := by
  unfold bits
  simp only
  rw [IntKind.wrap_u64]
  omega
theorem bits_u64_in (o : BinOp) (x y : Int) : 0 ≤ bits o .u64 x y ∧ bits o .u64 x y < 18446744073709551616 := by
  refine ⟨bits_u64_nn o x y, ?_⟩
  unfold bits
  simp only
  rw [IntKind.wrap_u64]
  omega
set_option maxHeartbeats 1000000 in
theorem word_any (b off n cap : Nat) (l : List UInt8) (hl : 8 ≤ l.length) (w : World) (h : Bt w (.slice (some ⟨b, off, none⟩) n cap) l) :
    Calls Try.prog 104 #[.slice (some ⟨b, off, none⟩) n cap] w fun e w' => (∃ y : Int, (0 ≤ y ∧ y < 18446744073709551616) ∧ e = .returned (.int .u64 y)) ∧ Below w.heap.size w w' := by
  obtain ⟨rfl, p1, p2, p3⟩ := h.len
  have h8 : (8 : Int) ≤ (cap : Int) := by omega
  have h8n : 8 ≤ cap := by omega
  go_enter Try.func104, Try.ntmps104
  go_wp2_with fail
  go_loopw [2, 3, 4, 8] (fun x _ _ i wr => ∃ (y : Int) (j : Nat), j ≤ 8 ∧ Hid (0 ≤ y ∧ y < 18446744073709551616) ∧ x = .int .u64 y ∧ i = .int .i64 j ∧ Below w.heap.size w wr) (fun _ _ _ i _ => 8 - (intOf i).toNat)
  case atStart => exact ⟨0, 0, by omega, Lib.hid (by omega), rfl, rfl, Below.refl _ _⟩
  case round =>
    obtain ⟨y, j, hj, hy, rfl, rfl, hb⟩ := hrel
    by_cases hlt : j < 8
    · have hc := (h.below hb).at j (by omega)
      have hw3 : IntKind.i64.wrap (8 * (j : Int)) = 8 * (j : Int) := IntWalk.i64_in _ (by omega)
      have hdj : decide ((j : Int) < 8) = true := decide_eq_true (by omega)
      clear h
      go_wp2_with fail
      go_roundw
      case rel => exact ⟨_, j + 1, by omega, Lib.hid (bits_u64_in _ _ _), rfl, congrArg (Value.int .i64) (by omega), hb⟩
      case measure =>
        show 8 - ((j : Int) + 1).toNat < 8 - (j : Int).toNat
        omega
    · clear h
      go_wp2
      go_ret
      exact ⟨⟨_, hy.out, rfl⟩, hb⟩
end Go.Proofs.Ytdiokmaomglefaa
/- Numbers of five limbs; of bytes. -/
namespace Go.Proofs.Ytdiokmaomglefaa
open Go Go.RowKit

/-- A number's value: five limbs. -/
def fv (cs : List Int) : Array Value := (cs.map (Value.int .u64)).toArray
/-- A block that holds five limbs, and of what was there no other one is touched. -/
structure Five (g : Nat) (a w : World) : Prop where
  blk : ∃ cs : List Int, cs.length = 5 ∧ w.heap[g]? = some (.cells (fv cs) 167 (0, 0))
  upto : Upto g a w
theorem fv_one (cs : List Int) : (fv cs).all (·.oneCell') = true := by
  rw [Array.all_eq_true]
  intro i hi
  simp [fv]
  rfl
theorem fv_size (cs : List Int) : (fv cs).size = cs.length := by simp [fv]
theorem Five.set {g : Nat} {a w : World} (h : Five g a w) (j : Nat) (v : Int) : Five g a (w.setCell ⟨g, j, none⟩ (.int .u64 v)) := by
  obtain ⟨⟨cs, hl, hb⟩, hu⟩ := h
  have L := set_cell (j := j) hb (.int .u64 v)
  refine ⟨⟨cs.set j v, by simpa using hl, ?_⟩, ⟨hu.bel.trans L.bel, fun k hk hlt => (L.rest k hk).trans (hu.rest k hk hlt)⟩⟩
  rw [L.blk]
  simp [fv, List.map_set]
theorem Five.laid {g : Nat} {a w w2 : World} (h : Five g a w) (cs : List Int) (hl : cs.length = 5) (L : Laid w g (fv cs) 167 w2) : Five g a w2 :=
  ⟨⟨cs, hl, L.blk⟩, ⟨h.upto.bel.trans L.bel, fun k hk hlt => (L.rest k hk).trans (h.upto.rest k hk hlt)⟩⟩
theorem Five.below {g : Nat} {a w w2 : World} (h : Five g a w) (hg : g < a.heap.size) (hb : Below w.heap.size w w2) : Five g a w2 := by
  obtain ⟨⟨cs, hl, hbk⟩, hu⟩ := h
  have hs := hu.bel.size
  exact ⟨⟨cs, hl, blk_on hbk hb⟩, ⟨hu.bel.trans (hb.mono (by omega)), fun k hk hlt => (hb.block k (by omega)).trans (hu.rest k hk hlt)⟩⟩
theorem Five.drew {g : Nat} {a w : World} (h : Five g a w) : Five g a w.drew := ⟨h.blk, h.upto.drew⟩
theorem Five.cell {g : Nat} {a w : World} (h : Five g a w) (j : Nat) (hj : j < 5) : ∃ x : Int, w.cell? ⟨g, j, none⟩ = some (.int .u64 x) := by
  obtain ⟨⟨cs, hl, hb⟩, _⟩ := h
  refine ⟨cs[j]'(by omega), ?_⟩
  rw [cell_of_block hb j]
  simp [fv, hl, hj]
theorem Five.thaw {g : Nat} {a w : World} (h : Five g a w) (j : Nat) : w.frozen? ⟨g, j, none⟩ = false := by
  obtain ⟨⟨cs, hl, hb⟩, _⟩ := h
  exact thawed hb j
theorem Five.start {g : Nat} {w : World} {cs : List Int} (hl : cs.length = 5) (h : w.heap[g]? = some (.cells (fv cs) 167 (0, 0))) : Five g w w := ⟨⟨cs, hl, h⟩, Upto.refl _ _⟩
theorem info_num : (Try.prog.info? 167).map (·.size) = some 5 := by kernel_rfl
theorem over_zero (x : UInt8) (k : Nat) (hk : 8 ≤ k) : (x.toNat : Int) / 2 ^ k = 0 := by
  have h1 := x.toNat_lt
  have h2 : (256 : Int) ≤ 2 ^ k := by
    have := Nat.pow_le_pow_right (show 0 < 2 by decide) hk
    have h3 : (2 : Int) ^ k = ((2 ^ k : Nat) : Int) := by simp
    omega
  exact Int.ediv_eq_zero_of_lt (by omega) (by omega)
set_option linter.unusedSimpArgs false in
set_option maxRecDepth 100000 in
set_option maxHeartbeats 8000000 in
theorem of_bytes (b off n cap : Nat) (l : List UInt8) (hl : l.length ≤ 17) (h16 : ∀ x, l[16]? = some x → x.toNat < 4) (w : World) (h : Bt w (.slice (some ⟨b, off, none⟩) n cap) l) :
    Calls Try.prog 100 #[.slice (some ⟨b, off, none⟩) n cap] w fun e w' => (∃ cs : List Int, cs.length = 5 ∧ e = .returned (.agg (fv cs))) ∧ Below w.heap.size w w' := by
  obtain ⟨rfl, p1, p2, p3⟩ := h.len
  go_enter Try.func100, Try.ntmps100
  go_wp2_with fail
  refine code_world (fun w0 e0 => ?_)
  obtain ⟨g1, hb, hs0⟩ := one_alloc e0
  clear e0
  obtain ⟨G, hG⟩ : ∃ G, w.heap.size = G := ⟨_, rfl⟩
  have HB := Lib.hid hb
  have HBT := Lib.hid (h.below hb)
  have HG := Lib.hid hG
  rw [hG] at g1 ⊢
  have lG : G < w0.heap.size := by omega
  have F0 : Five G w0 w0 := Five.start (cs := [0, 0, 0, 0, 0]) rfl g1
  have HF := Lib.hid F0
  have H16 := Lib.hid h16
  have hbG : ∀ {b off n cap}, Bt w (.slice (some ⟨b, off, none⟩) n cap) l → 0 < l.length → b ≠ G := by
    intro b off n cap hh hpos e
    obtain ⟨b', o', e1, hlt, _⟩ := hh.where (by rw [← hh.len.1]; have := hh.len.1; omega)
    cases e1
    omega
  have HBG := Lib.hid (fun hpos => hbG h hpos)
  clear g1 hb hs0 hG F0 h16 h hbG
  go_loopw [3, 4, 5, 6, 9] (fun _ _ _ _ i wr => ∃ j : Nat, j ≤ l.length ∧ i = .int .i64 j ∧ Five G w0 wr) (fun _ _ _ _ i _ => l.length - (intOf i).toNat)
  case atStart => exact ⟨0, by omega, rfl, HF.out⟩
  case round =>
    clear HF
    obtain ⟨j, hj, rfl, HO⟩ := hrel
    by_cases hlt : j < l.length
    · have hc := HO.upto.cell (HBG.out (by omega)) (HBT.out.at j hlt)
      obtain ⟨x, hx⟩ : ∃ x, l[j] = x := ⟨_, rfl⟩
      rw [hx] at hc
      obtain ⟨q, hq⟩ : ∃ q, 8 * j / 26 = q := ⟨_, rfl⟩
      obtain ⟨r, hr⟩ : ∃ r, 8 * j % 26 = r := ⟨_, rfl⟩
      have hq5 : q < 5 := by omega
      have e1 : IntKind.i64.wrap (8 * (j : Int)) = 8 * (j : Int) := IntWalk.i64_in _ (by omega)
      have e2 : (8 * (j : Int)).tdiv 26 = (q : Int) := by rw [Int.tdiv_eq_ediv_of_nonneg (by omega)]; omega
      have e3 : (8 * (j : Int)).tmod 26 = (r : Int) := by rw [Int.tmod_eq_emod_of_nonneg (by omega)]; omega
      have e4 : IntKind.i64.wrap (q : Int) = (q : Int) := IntWalk.i64_in _ (by omega)
      have e5 : IntKind.i64.wrap (r : Int) = (r : Int) := IntWalk.i64_in _ (by omega)
      have e6 : IntKind.i64.wrap (26 - (r : Int)) = 26 - (r : Int) := IntWalk.i64_in _ (by omega)
      have i1 : (0 : Int) ≤ (q : Int) := by omega
      have i2 : (q : Int) < 5 := by omega
      have i3 : (0 : Int) ≤ (r : Int) := by omega
      have i4 : (r : Int) < 26 := by omega
      have i5 : (0 : Int) ≤ 26 - (r : Int) := by omega
      have j1 : (0 : Int) ≤ (j : Int) := by omega
      have j2 : (j : Int) < (l.length : Int) := by omega
      obtain ⟨y, hy⟩ := HO.cell q hq5
      have hz := HO.thaw q
      have hx256 := x.toNat_lt
      have hov : 0 < IntKind.u64.wrap (x.toNat : Int) / 2 ^ (26 - r) → q + 1 < 5 := by
        intro hpos
        have hw : IntKind.u64.wrap (x.toNat : Int) = (x.toNat : Int) := by rw [IntKind.wrap_u64]; omega
        rw [hw] at hpos
        by_cases hj16 : j = 16
        · exfalso
          subst hj16
          have h4 := H16.out x (by rw [← hx]; exact List.getElem?_eq_getElem hlt)
          have hr24 : r = 24 := by omega
          subst hr24
          simp at hpos
          omega
        · by_cases h8 : 8 ≤ 26 - r
          · rw [over_zero x (26 - r) h8] at hpos
            omega
          · omega
      have HQ := Lib.hid hq
      have HR := Lib.hid hr
      have HX := Lib.hid hx
      have HOO := Lib.hid HO
      have HOV := Lib.hid hov
      clear hq hr hx HO hov hx256
      by_cases hp : 0 < IntKind.u64.wrap (x.toNat : Int) / 2 ^ (26 - r)
      · have hq4 := HOV.out hp
        have hd : decide (0 < IntKind.u64.wrap (x.toNat : Int) / 2 ^ (26 - r)) = true := decide_eq_true hp
        have e7 : IntKind.i64.wrap ((q : Int) + 1) = (q : Int) + 1 := IntWalk.i64_in _ (by omega)
        have i6 : (0 : Int) ≤ (q : Int) + 1 := by omega
        have i7 : (q : Int) + 1 < 5 := by omega
        obtain ⟨y1, hy1⟩ := HOO.out.cell (q + 1) hq4
        have hz1 := HOO.out.thaw (q + 1)
        clear hp
        go_wp2_with fail
        refine wp_region_noPanic ?_
        refine wp_region_till (T := fun w' => w'.cell? ⟨G, q, none⟩ = some (.int .u64 y)) 12 (by kernel_rfl) ?_ (fun hTill => ?_)
        · exact hy
        refine takeM 0 (v := ?_) rfl (by kernel_rfl) (by kernel_rfl) (by kernel_rfl) (by kernel_rfl) (fun _ _ _ h => h) (Or.inl ⟨by rfl, ?_⟩) (by assumption) (fun hTill => ?_)
        rotate_left
        · (intro w hSw; go_simp; try with_reducible rfl)
        (try simp only [Act.put, List.setIfInBounds_toArray, List.set_cons_zero, List.set_cons_succ])
        refine takeM 1 (v := ?_) rfl (by kernel_rfl) (by kernel_rfl) (by kernel_rfl) (by kernel_rfl) (fun _ _ _ h => h) (Or.inl ⟨by rfl, ?_⟩) (by assumption) (fun hTill => ?_)
        rotate_left
        · (intro w hSw; go_simp; try with_reducible rfl)
        (try simp only [Act.put, List.setIfInBounds_toArray, List.set_cons_zero, List.set_cons_succ])
        refine takeM 2 (v := ?_) rfl (by kernel_rfl) (by kernel_rfl) (by kernel_rfl) (by kernel_rfl) (fun _ _ _ h => h) (Or.inl ⟨by rfl, ?_⟩) (by assumption) (fun hTill => ?_)
        rotate_left
        · (intro w hSw; go_simp; try with_reducible rfl)
        (try simp only [Act.put, List.setIfInBounds_toArray, List.set_cons_zero, List.set_cons_succ])
        refine takeT 3 (v := ?_) rfl (by kernel_rfl) (by kernel_rfl) (by kernel_rfl) (by kernel_rfl) (by kernel_rfl) (by kernel_rfl) (fun _ _ _ h => h) (Or.inl ⟨by rfl, ?_⟩) (by assumption) (fun hTill => ?_)
        rotate_left
        · (intro w hSw; go_simp; try with_reducible rfl)
        (try simp only [Act.put, List.setIfInBounds_toArray, List.set_cons_zero, List.set_cons_succ])
        refine takeM 4 (v := ?_) rfl (by kernel_rfl) (by kernel_rfl) (by kernel_rfl) (by kernel_rfl) (fun _ _ _ h => h) (Or.inl ⟨by rfl, ?_⟩) (by assumption) (fun hTill => ?_)
        rotate_left
        · (intro w hSw; go_simp; try with_reducible rfl)
        (try simp only [Act.put, List.setIfInBounds_toArray, List.set_cons_zero, List.set_cons_succ])
        refine takeM 5 (v := ?_) rfl (by kernel_rfl) (by kernel_rfl) (by kernel_rfl) (by kernel_rfl) (fun _ _ _ h => h) (Or.inl ⟨by rfl, ?_⟩) (by assumption) (fun hTill => ?_)
        rotate_left
        · (intro w hSw; go_simp; try with_reducible rfl)
        (try simp only [Act.put, List.setIfInBounds_toArray, List.set_cons_zero, List.set_cons_succ])
        refine takeM 6 (v := ?_) rfl (by kernel_rfl) (by kernel_rfl) (by kernel_rfl) (by kernel_rfl) (fun _ _ _ h => h) (Or.inl ⟨by rfl, ?_⟩) (by assumption) (fun hTill => ?_)
        rotate_left
        · (intro w hSw; go_simp; try with_reducible rfl)
        (try simp only [Act.put, List.setIfInBounds_toArray, List.set_cons_zero, List.set_cons_succ])
        refine takeM 7 (v := ?_) rfl (by kernel_rfl) (by kernel_rfl) (by kernel_rfl) (by kernel_rfl) (fun _ _ _ h => h) (Or.inl ⟨by rfl, ?_⟩) (by assumption) (fun hTill => ?_)
        rotate_left
        · (intro w hSw; go_simp; try with_reducible rfl)
        (try simp only [Act.put, List.setIfInBounds_toArray, List.set_cons_zero, List.set_cons_succ])
        refine takeM 8 (v := ?_) rfl (by kernel_rfl) (by kernel_rfl) (by kernel_rfl) (by kernel_rfl) (fun _ _ _ h => h) (Or.inl ⟨by rfl, ?_⟩) (by assumption) (fun hTill => ?_)
        rotate_left
        · (intro w hSw; go_simp; try with_reducible rfl)
        (try simp only [Act.put, List.setIfInBounds_toArray, List.set_cons_zero, List.set_cons_succ])
        refine takeM 9 (v := ?_) rfl (by kernel_rfl) (by kernel_rfl) (by kernel_rfl) (by kernel_rfl) (fun _ _ _ h => h) (Or.inl ⟨by rfl, ?_⟩) (by assumption) (fun hTill => ?_)
        rotate_left
        · (intro w hSw; go_simp; try with_reducible rfl)
        (try simp only [Act.put, List.setIfInBounds_toArray, List.set_cons_zero, List.set_cons_succ])
        refine takeM 10 (v := ?_) rfl (by kernel_rfl) (by kernel_rfl) (by kernel_rfl) (by kernel_rfl) (fun _ _ _ h => h) (Or.inl ⟨by rfl, ?_⟩) (by assumption) (fun hTill => ?_)
        rotate_left
        · (intro w hSw; go_simp; try with_reducible rfl)
        (try simp only [Act.put, List.setIfInBounds_toArray, List.set_cons_zero, List.set_cons_succ])
        refine takeM 11 (v := ?_) rfl (by kernel_rfl) (by kernel_rfl) (by kernel_rfl) (by kernel_rfl) (fun _ _ _ h => h) (Or.inl ⟨by rfl, ?_⟩) (by assumption) (fun hTill => ?_)
        rotate_left
        · (intro w hSw; go_simp; try with_reducible rfl)
        (try simp only [Act.put, List.setIfInBounds_toArray, List.set_cons_zero, List.set_cons_succ])
        refine stepM 12 rfl (by kernel_rfl) (fun K hK => ?_)
        go_simp
        refine hK.out _ _ ?_ (fun hTill => ?_)
        · exact till_over (by kernel_rfl)
        clear hK K
        (try simp only [Act.put, List.setIfInBounds_toArray, List.set_cons_zero, List.set_cons_succ])
        refine doneM (by kernel_rfl) ?_ _
        refine NoPanic.normal ?_
        go_wp2_with fail
        go_roundw
        case rel => exact ⟨j + 1, by omega, congrArg (Value.int .i64) (by omega), (HOO.out.drew.set q _).set (q + 1) _⟩
        case measure =>
          show l.length - ((j : Int) + 1).toNat < l.length - (j : Int).toNat
          omega
      · have hd : decide (0 < IntKind.u64.wrap (x.toNat : Int) / 2 ^ (26 - r)) = false := decide_eq_false hp
        clear hp
        go_wp2_with fail
        refine wp_region_noPanic ?_
        refine wp_region_till (T := fun w' => w'.cell? ⟨G, q, none⟩ = some (.int .u64 y)) 12 (by kernel_rfl) ?_ (fun hTill => ?_)
        · exact hy
        refine takeM 0 (v := ?_) rfl (by kernel_rfl) (by kernel_rfl) (by kernel_rfl) (by kernel_rfl) (fun _ _ _ h => h) (Or.inl ⟨by rfl, ?_⟩) (by assumption) (fun hTill => ?_)
        rotate_left
        · (intro w hSw; go_simp; try with_reducible rfl)
        (try simp only [Act.put, List.setIfInBounds_toArray, List.set_cons_zero, List.set_cons_succ])
        refine takeM 1 (v := ?_) rfl (by kernel_rfl) (by kernel_rfl) (by kernel_rfl) (by kernel_rfl) (fun _ _ _ h => h) (Or.inl ⟨by rfl, ?_⟩) (by assumption) (fun hTill => ?_)
        rotate_left
        · (intro w hSw; go_simp; try with_reducible rfl)
        (try simp only [Act.put, List.setIfInBounds_toArray, List.set_cons_zero, List.set_cons_succ])
        refine takeM 2 (v := ?_) rfl (by kernel_rfl) (by kernel_rfl) (by kernel_rfl) (by kernel_rfl) (fun _ _ _ h => h) (Or.inl ⟨by rfl, ?_⟩) (by assumption) (fun hTill => ?_)
        rotate_left
        · (intro w hSw; go_simp; try with_reducible rfl)
        (try simp only [Act.put, List.setIfInBounds_toArray, List.set_cons_zero, List.set_cons_succ])
        refine takeT 3 (v := ?_) rfl (by kernel_rfl) (by kernel_rfl) (by kernel_rfl) (by kernel_rfl) (by kernel_rfl) (by kernel_rfl) (fun _ _ _ h => h) (Or.inl ⟨by rfl, ?_⟩) (by assumption) (fun hTill => ?_)
        rotate_left
        · (intro w hSw; go_simp; try with_reducible rfl)
        (try simp only [Act.put, List.setIfInBounds_toArray, List.set_cons_zero, List.set_cons_succ])
        refine takeM 4 (v := ?_) rfl (by kernel_rfl) (by kernel_rfl) (by kernel_rfl) (by kernel_rfl) (fun _ _ _ h => h) (Or.inl ⟨by rfl, ?_⟩) (by assumption) (fun hTill => ?_)
        rotate_left
        · (intro w hSw; go_simp; try with_reducible rfl)
        (try simp only [Act.put, List.setIfInBounds_toArray, List.set_cons_zero, List.set_cons_succ])
        refine takeM 5 (v := ?_) rfl (by kernel_rfl) (by kernel_rfl) (by kernel_rfl) (by kernel_rfl) (fun _ _ _ h => h) (Or.inl ⟨by rfl, ?_⟩) (by assumption) (fun hTill => ?_)
        rotate_left
        · (intro w hSw; go_simp; try with_reducible rfl)
        (try simp only [Act.put, List.setIfInBounds_toArray, List.set_cons_zero, List.set_cons_succ])
        refine takeM 6 (v := ?_) rfl (by kernel_rfl) (by kernel_rfl) (by kernel_rfl) (by kernel_rfl) (fun _ _ _ h => h) (Or.inl ⟨by rfl, ?_⟩) (by assumption) (fun hTill => ?_)
        rotate_left
        · (intro w hSw; go_simp; try with_reducible rfl)
        (try simp only [Act.put, List.setIfInBounds_toArray, List.set_cons_zero, List.set_cons_succ])
        refine takeM 7 (v := ?_) rfl (by kernel_rfl) (by kernel_rfl) (by kernel_rfl) (by kernel_rfl) (fun _ _ _ h => h) (Or.inl ⟨by rfl, ?_⟩) (by assumption) (fun hTill => ?_)
        rotate_left
        · (intro w hSw; go_simp; try with_reducible rfl)
        (try simp only [Act.put, List.setIfInBounds_toArray, List.set_cons_zero, List.set_cons_succ])
        refine takeM 8 (v := ?_) rfl (by kernel_rfl) (by kernel_rfl) (by kernel_rfl) (by kernel_rfl) (fun _ _ _ h => h) (Or.inl ⟨by rfl, ?_⟩) (by assumption) (fun hTill => ?_)
        rotate_left
        · (intro w hSw; go_simp; try with_reducible rfl)
        (try simp only [Act.put, List.setIfInBounds_toArray, List.set_cons_zero, List.set_cons_succ])
        refine takeM 9 (v := ?_) rfl (by kernel_rfl) (by kernel_rfl) (by kernel_rfl) (by kernel_rfl) (fun _ _ _ h => h) (Or.inl ⟨by rfl, ?_⟩) (by assumption) (fun hTill => ?_)
        rotate_left
        · (intro w hSw; go_simp; try with_reducible rfl)
        (try simp only [Act.put, List.setIfInBounds_toArray, List.set_cons_zero, List.set_cons_succ])
        refine takeM 10 (v := ?_) rfl (by kernel_rfl) (by kernel_rfl) (by kernel_rfl) (by kernel_rfl) (fun _ _ _ h => h) (Or.inl ⟨by rfl, ?_⟩) (by assumption) (fun hTill => ?_)
        rotate_left
        · (intro w hSw; go_simp; try with_reducible rfl)
        (try simp only [Act.put, List.setIfInBounds_toArray, List.set_cons_zero, List.set_cons_succ])
        refine takeM 11 (v := ?_) rfl (by kernel_rfl) (by kernel_rfl) (by kernel_rfl) (by kernel_rfl) (fun _ _ _ h => h) (Or.inl ⟨by rfl, ?_⟩) (by assumption) (fun hTill => ?_)
        rotate_left
        · (intro w hSw; go_simp; try with_reducible rfl)
        (try simp only [Act.put, List.setIfInBounds_toArray, List.set_cons_zero, List.set_cons_succ])
        refine stepM 12 rfl (by kernel_rfl) (fun K hK => ?_)
        go_simp
        refine hK.out _ _ ?_ (fun hTill => ?_)
        · exact till_over (by kernel_rfl)
        clear hK K
        (try simp only [Act.put, List.setIfInBounds_toArray, List.set_cons_zero, List.set_cons_succ])
        refine doneM (by kernel_rfl) ?_ _
        refine NoPanic.normal ?_
        go_wp2_with fail
        go_roundw
        case rel => exact ⟨j + 1, by omega, congrArg (Value.int .i64) (by omega), HOO.out.drew.set q _⟩
        case measure =>
          show l.length - ((j : Int) + 1).toNat < l.length - (j : Int).toNat
          omega
    · obtain rfl : j = l.length := by omega
      obtain ⟨⟨cs, hcl, hbk⟩, hup⟩ := HO
      have hi5 := info_num
      have hil : (Try.prog.info? 167).map (·.size) = some (cs.map (Value.int .u64)).length := by rw [List.length_map, hcl]; exact hi5
      have rr := range_of_block (cs := cs.map (Value.int .u64)) hbk
      have hs5 : (fv cs).size = 5 := by rw [fv_size]; exact hcl
      have H5 := Lib.hid hs5
      have HC5 := Lib.hid hcl
      have hone := fv_one cs
      clear hs5 hcl
      go_wp2_with (first
        | refine wpList_load_at (by rfl) 167 (.tmp 2) rfl G 0 (by rfl) (cs.map (Value.int .u64)) _ rr Try.underlying167 rfl hil ?_
        | (refine wpList_lay (by rfl) 167 (.tmp 2) (.tmp 45) rfl G (fv cs) (by rfl) (by rfl) 167 _ hbk 5 hi5 H5.out H5.out hone ?_; intro w9 hL9))
      try simp only [Exit.inBlock, Exit.then]
      refine bodyPost_ret (results_cell_row rfl _ _ G _ _ _ _ rfl hL9.blk Try.underlying167 rfl (by rw [H5.out]; exact hi5)) rfl ?_
      have hG := HG.out
      exact ⟨⟨cs, HC5.out, rfl⟩, HB.out.trans ((hup.bel.mono (by omega)).trans (hL9.bel.mono (by omega)))⟩
end Go.Proofs.Ytdiokmaomglefaa
/- Numbers of five limbs: carried, times, least. -/
namespace Go.Proofs.Ytdiokmaomglefaa
open Go Go.RowKit

set_option linter.unusedSimpArgs false in
set_option maxRecDepth 100000 in
set_option maxHeartbeats 2000000 in
theorem carry1_any (g i j : Nat) (hi : i < 5) (hj : j < 5) (t : Int) (a w : World) (h : Five g a w) :
    Calls Try.prog 109 #[.int .i64 i, .int .i64 j, .int .u64 t, .pointer (some ⟨g, 0, none⟩)] w fun e w' => e = .returned (.tuple #[]) ∧ Five g a w' := by
  have i1 : (0 : Int) ≤ (i : Int) := by omega
  have i2 : (i : Int) < 5 := by omega
  have j1 : (0 : Int) ≤ (j : Int) := by omega
  have j2 : (j : Int) < 5 := by omega
  obtain ⟨x, hx⟩ := h.cell i hi
  have hz := h.thaw i
  have HH := Lib.hid h
  obtain ⟨y, hy⟩ := (h.set i (bits BinOp.and IntKind.u64 x 67108863)).cell j hj
  have hz2 := h.thaw j
  clear h
  go_enter Try.func109, Try.ntmps109
  go_wp2
  go_end0
  exact ⟨rfl, (HH.out.set i _).set j _⟩
set_option linter.unusedSimpArgs false in
set_option maxRecDepth 100000 in
set_option maxHeartbeats 2000000 in
theorem carried_any (cs : List Int) (hl : cs.length = 5) (w : World) :
    Calls Try.prog 108 #[.agg (fv cs)] w fun e w' => (∃ cs' : List Int, cs'.length = 5 ∧ e = .returned (.agg (fv cs'))) ∧ Below w.heap.size w w' := by
  have HL := Lib.hid hl
  clear hl
  go_enter Try.func108, Try.ntmps108
  go_wp2_with fail
  refine code_world (fun w0 e0 => ?_)
  obtain ⟨g1, g2, hb, hs0⟩ := two_alloc e0
  clear e0
  have F0 := Five.start HL.out g1
  obtain ⟨G, hG⟩ : ∃ G, w.heap.size = G := ⟨_, rfl⟩
  have HB := Lib.hid hb
  have HG := Lib.hid hG
  have HS := Lib.hid hs0
  rw [hG] at g1 g2 F0 ⊢
  have HF := Lib.hid F0
  have HR := Lib.hid g2
  clear g1 g2 hb hs0 hG F0
  go_loopw [4, 6, 8] (fun _ i _ wr => ∃ q : Nat, q ≤ 2 ∧ i = .int .i64 q ∧ Five G w0 wr) (fun _ i _ _ => 2 - (intOf i).toNat)
  case atStart => exact ⟨0, by omega, rfl, HF.out⟩
  case round =>
    clear HF
    obtain ⟨q, hq, rfl, HO⟩ := hrel
    by_cases hlt : q < 2
    · have hdq : decide ((q : Int) < 2) = true := decide_eq_true (by omega)
      have HF := Lib.hid HO
      clear HO
      go_wp2_with fail
      try simp only [hdq]
      go_loopw [4, 8] (fun _ i wr => ∃ j : Nat, j ≤ 4 ∧ i = .int .i64 j ∧ Five G w0 wr) (fun _ i _ => 4 - (intOf i).toNat)
      case atStart => exact ⟨0, by omega, rfl, HF.out⟩
      case round =>
        clear HF
        obtain ⟨j, hj, rfl, HO⟩ := hrel
        by_cases hjl : j < 4
        · have e1 : IntKind.i64.wrap ((j : Int) + 1) = ((j + 1 : Nat) : Int) := (IntWalk.i64_in _ (by omega)).trans (by omega)
          have hcall := carry1_any G j (j + 1) (by omega) (by omega) 1 w0 wr HO
          rw [show ((j + 1 : Nat) : Int) = (j : Int) + 1 by omega] at hcall e1
          clear HO
          go_wp2_with fail
          refine hcall.mono ?_
          rintro e w5 ⟨rfl, HO⟩
          have HF := Lib.hid HO
          clear hcall HO
          go_wp2
          go_roundw
          case rel => exact ⟨j + 1, by omega, congrArg (Value.int .i64) (by omega), HF.out⟩
          case measure =>
            show 4 - ((j : Int) + 1).toNat < 4 - (j : Int).toNat
            omega
        · have hcall := carry1_any G 4 0 (by omega) (by omega) 5 w0 wr HO
          clear HO
          go_wp2_with fail
          refine hcall.mono ?_
          rintro e w5 ⟨rfl, HO⟩
          have HF := Lib.hid HO
          clear hcall HO
          go_wp2
          go_roundw
          case rel => exact ⟨q + 1, by omega, congrArg (Value.int .i64) (by omega), HF.out⟩
          case measure =>
            show 2 - ((q : Int) + 1).toNat < 2 - (q : Int).toNat
            omega
    · have hcall := carry1_any G 0 1 (by omega) (by omega) 1 w0 wr HO
      clear HO
      go_wp2_with fail
      refine hcall.mono ?_
      rintro e w5 ⟨rfl, HO⟩
      clear hcall
      have hR := HR.out
      have gR := HO.upto.blk (by omega) hR
      obtain ⟨⟨cs2, hcl, hbk⟩, hup⟩ := HO
      have hi5 := info_num
      have hil : (Try.prog.info? 167).map (·.size) = some (cs2.map (Value.int .u64)).length := by rw [List.length_map, hcl]; exact hi5
      have rr := range_of_block (cs := cs2.map (Value.int .u64)) hbk
      have H5 := Lib.hid (show (fv cs2).size = 5 from by rw [fv_size]; exact hcl)
      have HC5 := Lib.hid hcl
      have hone := fv_one cs2
      have HU := Lib.hid hup
      clear hcl hR hup
      go_wp2_with (first
        | refine wpList_load_at (by rfl) 167 (.tmp 1) rfl G 0 (by rfl) (cs2.map (Value.int .u64)) _ rr Try.underlying167 rfl hil ?_
        | (refine wpList_lay (by rfl) 167 (.tmp 2) (.tmp 22) rfl (G + 1) (fv cs2) (by rfl) (by rfl) 167 _ gR 5 hi5 H5.out rfl hone ?_; intro w9 hL9))
      try simp only [Exit.inBlock, Exit.then]
      refine bodyPost_ret (results_cell_row rfl _ _ (G + 1) _ _ _ _ rfl hL9.blk Try.underlying167 rfl (by rw [H5.out]; exact hi5)) rfl ?_
      have hG := HG.out
      exact ⟨⟨cs2, HC5.out, rfl⟩, HB.out.trans ((HU.out.bel.mono (by omega)).trans (hL9.bel.mono (by omega)))⟩
theorem index_num (cs : List Int) (k : Nat) (hl : cs.length = 5) (hk : k < 5) : ∃ x : Int, ∀ w, (Instr.index 167 (.agg (cs.map (Value.int .u64)).toArray) (.int .i64 k)).run Try.prog w = .ok (.int .u64 x) w := by
  refine ⟨cs[k]'(by omega), fun w => ?_⟩
  simp [Instr.index, go_sem, Result.andThen, hl, hk]
set_option linter.unusedSimpArgs false in
set_option maxRecDepth 100000 in
set_option maxHeartbeats 4000000 in
theorem times_any (cs ds : List Int) (hc : cs.length = 5) (hd : ds.length = 5) (w : World) :
    Calls Try.prog 101 #[.agg (fv cs), .agg (fv ds)] w fun e w' => (∃ cs' : List Int, cs'.length = 5 ∧ e = .returned (.agg (fv cs'))) ∧ Below w.heap.size w w' := by
  have HC := Lib.hid hc
  have HD := Lib.hid hd
  have hi5 := info_num
  have hcl : (Try.prog.info? 167).map (·.size) = some (cs.map (Value.int .u64)).length := by rw [List.length_map, hc]; exact hi5
  have hdl : (Try.prog.info? 167).map (·.size) = some (ds.map (Value.int .u64)).length := by rw [List.length_map, hd]; exact hi5
  clear hc hd
  go_enter Try.func101, Try.ntmps101
  have h3 := three_alloc (w := w) (o1 := .cells (fv cs) 167) (o2 := .cells (fv ds) 167) (o3 := .cells #[.int .u64 0, .int .u64 0, .int .u64 0, .int .u64 0, .int .u64 0] 167) rfl
  have r1 := range_of_block (cs := cs.map (Value.int .u64)) h3.1
  clear h3
  go_wp2_with (refine wpList_load_at (by rfl) 167 (.tmp 2) rfl w.heap.size 0 (by rfl) (cs.map (Value.int .u64)) _ r1 Try.underlying167 rfl hcl ?_)
  clear r1 hcl
  refine code_world (fun w0 e0 => ?_)
  obtain ⟨g1, g2, g3, hb, hs0⟩ := three_alloc e0
  clear e0
  have F0 : Five (w.heap.size + 2) w0 w0 := Five.start (cs := [0, 0, 0, 0, 0]) rfl g3
  obtain ⟨G, hG⟩ : ∃ G, w.heap.size = G := ⟨_, rfl⟩
  have HB := Lib.hid hb
  have HG := Lib.hid hG
  rw [hG] at g1 g2 F0 hs0 ⊢
  have lG : G + 2 < w0.heap.size := by omega
  have HF := Lib.hid F0
  have R2 := Lib.hid (range_of_block (cs := ds.map (Value.int .u64)) g2)
  have G2 := Lib.hid g2
  clear g1 g2 g3 hb hs0 hG F0
  go_loopw [5, 6, 7, 8, 10, 14, 15] (fun _ _ _ _ i _ _ wr => ∃ q : Nat, q ≤ 5 ∧ i = .int .i64 q ∧ Five (G + 2) w0 wr) (fun _ _ _ _ i _ _ _ => 5 - (intOf i).toNat)
  case atStart => exact ⟨0, by omega, rfl, HF.out⟩
  case round =>
    clear HF
    obtain ⟨q, hq, rfl, HO⟩ := hrel
    by_cases hlt : q < 5
    · have hdq : decide ((q : Int) < 5) = true := decide_eq_true (by omega)
      obtain ⟨x, hx⟩ := index_num cs q HC.out hlt
      have rd := range_of_block (cs := ds.map (Value.int .u64)) (HO.upto.blk (by omega) G2.out)
      have HF := Lib.hid HO
      clear HO
      go_wp2_with (refine wpList_load_at (by rfl) 167 (.tmp 3) rfl (G + 1) 0 (by rfl) (ds.map (Value.int .u64)) _ rd Try.underlying167 rfl hdl ?_)
      try simp only [hdq]
      clear rd hx
      go_loopw [7, 8, 15] (fun _ _ i wr => ∃ j : Nat, j ≤ 5 ∧ i = .int .i64 j ∧ Five (G + 2) w0 wr) (fun _ _ i _ => 5 - (intOf i).toNat)
      case atStart => exact ⟨0, by omega, rfl, HF.out⟩
      case round =>
        clear HF
        obtain ⟨j, hj, rfl, HO⟩ := hrel
        by_cases hjl : j < 5
        · obtain ⟨y, hy⟩ := index_num ds j HD.out hjl
          have e1 : IntKind.i64.wrap ((q : Int) + (j : Int)) = (q : Int) + (j : Int) := IntWalk.i64_in _ (by omega)
          have HF := Lib.hid HO
          by_cases h5 : q + j < 5
          · have d1 : decide ((q : Int) + (j : Int) < 5) = true := decide_eq_true (by omega)
            have i1 : (0 : Int) ≤ (q : Int) + (j : Int) := by omega
            have i2 : (q : Int) + (j : Int) < 5 := by omega
            have i3 : ((q : Int) + (j : Int)).toNat = q + j := by omega
            obtain ⟨z, hz⟩ := HO.cell (q + j) h5
            have hzz := HO.thaw (q + j)
            clear HO
            go_wp2
            go_roundw
            case rel => exact ⟨j + 1, by omega, congrArg (Value.int .i64) (by omega), HF.out.set _ _⟩
            case measure =>
              show 5 - ((j : Int) + 1).toNat < 5 - (j : Int).toNat
              omega
          · have d1 : decide ((q : Int) + (j : Int) < 5) = false := decide_eq_false (by omega)
            have e2 : IntKind.i64.wrap ((q : Int) + (j : Int) - 5) = (q : Int) + (j : Int) - 5 := IntWalk.i64_in _ (by omega)
            have i1 : (0 : Int) ≤ (q : Int) + (j : Int) - 5 := by omega
            have i2 : (q : Int) + (j : Int) - 5 < 5 := by omega
            have i3 : ((q : Int) + (j : Int) - 5).toNat = q + j - 5 := by omega
            obtain ⟨z, hz⟩ := HO.cell (q + j - 5) (by omega)
            have hzz := HO.thaw (q + j - 5)
            clear HO
            go_wp2
            go_roundw
            case rel => exact ⟨j + 1, by omega, congrArg (Value.int .i64) (by omega), HF.out.set _ _⟩
            case measure =>
              show 5 - ((j : Int) + 1).toNat < 5 - (j : Int).toNat
              omega
        · have HF := Lib.hid HO
          clear HO
          go_wp2
          go_roundw
          case rel => exact ⟨q + 1, by omega, congrArg (Value.int .i64) (by omega), HF.out⟩
          case measure =>
            show 5 - ((q : Int) + 1).toNat < 5 - (q : Int).toNat
            omega
    · obtain ⟨⟨cs2, hcl, hbk⟩, hup⟩ := HO
      have hil : (Try.prog.info? 167).map (·.size) = some (cs2.map (Value.int .u64)).length := by rw [List.length_map, hcl]; exact hi5
      have rr := range_of_block (cs := cs2.map (Value.int .u64)) hbk
      have HU := Lib.hid hup
      have HK := Lib.hid hbk
      have HC5 := Lib.hid hcl
      clear hup hbk hcl
      go_wp2_with (refine wpList_load_at (by rfl) 167 (.tmp 4) rfl (G + 2) 0 (by rfl) (cs2.map (Value.int .u64)) _ rr Try.underlying167 rfl hil ?_)
      refine (carried_any cs2 HC5.out _).mono ?_
      rintro e w5 ⟨⟨cs3, h3, rfl⟩, hb5⟩
      have gG := blk_on HK.out hb5
      have H35 := Lib.hid (show (fv cs3).size = 5 from by rw [fv_size]; exact h3)
      have H25 := Lib.hid (show (fv cs2).size = 5 from by rw [fv_size]; exact HC5.out)
      have hone := fv_one cs3
      have H3 := Lib.hid h3
      have HB5 := Lib.hid hb5
      clear rr h3 hb5 hil
      go_wp2_with (refine wpList_lay (by rfl) 167 (.tmp 4) (.tmp 48) rfl (G + 2) (fv cs3) (by rfl) (by rfl) 167 _ gG 5 hi5 H35.out H25.out hone ?_; intro w9 hL9)
      try simp only [Exit.inBlock, Exit.then]
      refine bodyPost_ret (results_cell_row rfl _ _ (G + 2) _ _ _ _ rfl hL9.blk Try.underlying167 rfl (by rw [H35.out]; exact hi5)) rfl ?_
      have hG := HG.out
      exact ⟨⟨cs3, H3.out, rfl⟩, HB.out.trans ((HU.out.bel.mono (by omega)).trans ((HB5.out.mono (by have := HU.out.bel.size; omega)).trans (hL9.bel.mono (by omega))))⟩
end Go.Proofs.Ytdiokmaomglefaa
/- Numbers of five limbs: least. -/
namespace Go.Proofs.Ytdiokmaomglefaa
open Go Go.RowKit

def SameB (M : Nat) (a w : World) : Prop := w.heap[M]? = a.heap[M]?
set_option linter.unusedSimpArgs false in
set_option maxRecDepth 100000 in
set_option maxHeartbeats 4000000 in
theorem least_any (cs : List Int) (hc : cs.length = 5) (w : World) :
    Calls Try.prog 102 #[.agg (fv cs)] w fun e w' => (∃ cs' : List Int, cs'.length = 5 ∧ e = .returned (.agg (fv cs'))) ∧ Below w.heap.size w w' := by
  have HC := Lib.hid hc
  have hi5 := info_num
  have hcl : (Try.prog.info? 167).map (·.size) = some (cs.map (Value.int .u64)).length := by rw [List.length_map, hc]; exact hi5
  have h2 := two_alloc (w := w) (o1 := .cells (fv cs) 167) (o2 := .cells #[.int .u64 0, .int .u64 0, .int .u64 0, .int .u64 0, .int .u64 0] 167) rfl
  have r1 := range_of_block (cs := cs.map (Value.int .u64)) h2.1
  clear hc h2
  go_enter Try.func102, Try.ntmps102
  go_wp2_with (refine wpList_load_at (by rfl) 167 (.tmp 1) rfl w.heap.size 0 (by rfl) (cs.map (Value.int .u64)) _ r1 Try.underlying167 rfl hcl ?_)
  clear r1 hcl
  refine calls_world (fun w0 e0 => ?_)
  obtain ⟨g1, g2, hb, hs0⟩ := two_alloc e0
  clear e0
  refine (carried_any cs HC.out w0).mono ?_
  rintro e wa ⟨⟨ca, hca, rfl⟩, hba⟩
  go_wp2_with fail
  refine (carried_any ca hca wa).mono ?_
  rintro e wb ⟨⟨cb, hcb, rfl⟩, hbb⟩
  have gG := blk_on (blk_on g1 hba) hbb
  have gR := blk_on (blk_on g2 hba) hbb
  have hbw := hb.trans ((hba.trans (hbb.mono hba.size)).mono hb.size)
  have hszb : w0.heap.size ≤ wb.heap.size := Nat.le_trans hba.size hbb.size
  obtain ⟨G, hG⟩ : ∃ G, w.heap.size = G := ⟨_, rfl⟩
  have HBW := Lib.hid hbw
  have HG := Lib.hid hG
  rw [hG] at gG gR hs0 ⊢
  have H0 := Lib.hid (show (fv cs).size = 5 from by rw [fv_size]; exact HC.out)
  have HB5 := Lib.hid (show (fv cb).size = 5 from by rw [fv_size]; exact hcb)
  have HCB := Lib.hid hcb
  have honeb := fv_one cb
  have hbl : (Try.prog.info? 167).map (·.size) = some (cb.map (Value.int .u64)).length := by rw [List.length_map, hcb]; exact hi5
  have hlG : G + 1 < wb.heap.size := by omega
  clear g1 g2 hb hs0 hba hbb hbw hszb hG hca hcb
  go_wp2_with (first
    | (refine wpList_lay (by rfl) 167 (.tmp 1) (.tmp 7) rfl G (fv cb) (by rfl) (by rfl) 167 _ gG 5 hi5 HB5.out H0.out honeb ?_
       intro wc hLc
       have rc := range_of_block (cs := cb.map (Value.int .u64)) hLc.blk
       clear gG)
    | refine wpList_load_at (by rfl) 167 (.tmp 1) rfl G 0 (by rfl) (cb.map (Value.int .u64)) _ rc Try.underlying167 rfl hbl ?_
    | (refine wpList_lay (by rfl) 167 (.tmp 3) (.tmp 8) rfl wc.heap.size (fv cb) (by rfl) (by rfl) 167 _ (heap_alloc_new _ _) 5 hi5 HB5.out rfl honeb ?_
       intro wd hLd
       have FD := Five.start HCB.out hLd.blk
       obtain ⟨x0, hx0⟩ := FD.cell 0 (by omega)
       have hz0 := FD.thaw 0
       have HFD := Lib.hid FD
       clear FD rc))
  refine code_world (fun we ee => ?_)
  have hsd : wd.heap.size = wc.heap.size + 1 := by rw [hLd.size]; simp
  have hsc := hLc.size
  have F0 : Five wc.heap.size wd we := by rw [ee]; exact HFD.out.set 0 _
  have hbd : Below wc.heap.size wc wd := ((Below.refl _ wc).alloc (Nat.le_refl _) _).trans hLd.bel
  have gR2 : wd.heap[G + 1]? = some (.cells #[.int .u64 0, .int .u64 0, .int .u64 0, .int .u64 0, .int .u64 0] 167 (0, 0)) := blk_on ((hLc.rest (G + 1) (by omega)).trans gR) hbd
  have gG2 : wd.heap[G]? = some (.cells (fv cb) 167 (0, 0)) := blk_on hLc.blk hbd
  have hbD : Below G w wd := (HG.out ▸ HBW.out).trans (hLc.bel.trans (hbd.mono (by omega)))
  obtain ⟨M, hM⟩ : ∃ M, wc.heap.size = M := ⟨_, rfl⟩
  rw [hM] at F0 hsd hsc ⊢
  have hGM : G + 1 < M := by omega
  have hMd : M < wd.heap.size := by omega
  have HF := Lib.hid F0
  have HGG := Lib.hid gG2
  have HGR := Lib.hid gR2
  have HBD := Lib.hid hbD
  clear F0 gG2 gR2 hbD hbd hLc hLd ee hx0 hz0 HFD hsd hsc hM gR
  go_loopw [4, 13] (fun _ i wr => ∃ j : Nat, j ≤ 4 ∧ i = .int .i64 j ∧ Five M wd wr) (fun _ i _ => 4 - (intOf i).toNat)
  case atStart => exact ⟨0, by omega, rfl, HF.out⟩
  case round =>
    clear HF
    obtain ⟨j, hj, rfl, HO⟩ := hrel
    by_cases hlt : j < 4
    · have e1 : IntKind.i64.wrap ((j : Int) + 1) = (j : Int) + 1 := IntWalk.i64_in _ (by omega)
      have i1 : (0 : Int) ≤ (j : Int) := by omega
      have i2 : (j : Int) < 5 := by omega
      have i3 : (0 : Int) ≤ (j : Int) + 1 := by omega
      have i4 : (j : Int) + 1 < 5 := by omega
      have i5 : ((j : Int) + 1).toNat = j + 1 := by omega
      obtain ⟨x, hx⟩ := HO.cell j (by omega)
      obtain ⟨y, hy⟩ := HO.cell (j + 1) (by omega)
      have hz := HO.thaw j
      have hz1 := HO.thaw (j + 1)
      have gx : ∀ w', SameB M wr w' → w'.cell? ⟨M, j, none⟩ = some (.int .u64 x) := fun w' h => (World.cell?_of_block (a := ⟨M, j, none⟩) h).trans hx
      have gy : ∀ w', SameB M wr w' → w'.cell? ⟨M, j + 1, none⟩ = some (.int .u64 y) := fun w' h => (World.cell?_of_block (a := ⟨M, j + 1, none⟩) h).trans hy
      have HOO := Lib.hid HO
      clear HO
      go_wp2_with fail
      refine wp_region_noPanic ?_
      refine wp_region_till (T := SameB M wr) 10 (by kernel_rfl) ?_ (fun hTill => ?_)
      · exact (rfl : wr.drew.heap[M]? = wr.heap[M]?)
      refine takeM 0 (v := ?_) rfl (by kernel_rfl) (by kernel_rfl) (by kernel_rfl) (by kernel_rfl) (fun _ _ _ h => h) (Or.inl ⟨by rfl, ?_⟩) (by assumption) (fun hTill => ?_)
      rotate_left
      · (intro w hSw; go_simp; try with_reducible rfl)
      (try simp only [Act.put, List.setIfInBounds_toArray, List.set_cons_zero, List.set_cons_succ])
      refine takeM 1 (v := ?_) rfl (by kernel_rfl) (by kernel_rfl) (by kernel_rfl) (by kernel_rfl) (fun _ _ _ h => h) (Or.inl ⟨by rfl, ?_⟩) (by assumption) (fun hTill => ?_)
      rotate_left
      · (intro w hSw; go_simp; try with_reducible rfl)
      (try simp only [Act.put, List.setIfInBounds_toArray, List.set_cons_zero, List.set_cons_succ])
      refine takeM 2 (v := ?_) rfl (by kernel_rfl) (by kernel_rfl) (by kernel_rfl) (by kernel_rfl) (fun _ _ _ h => h) (Or.inl ⟨by rfl, ?_⟩) (by assumption) (fun hTill => ?_)
      rotate_left
      · (intro w hSw; go_simp; try with_reducible rfl)
      (try simp only [Act.put, List.setIfInBounds_toArray, List.set_cons_zero, List.set_cons_succ])
      refine takeT 3 (v := ?_) rfl (by kernel_rfl) (by kernel_rfl) (by kernel_rfl) (by kernel_rfl) (by kernel_rfl) (by kernel_rfl) (fun _ _ _ h => h) (Or.inl ⟨by rfl, ?_⟩) (by assumption) (fun hTill => ?_)
      rotate_left
      · (intro w hSw; go_simp; try with_reducible rfl)
      (try simp only [Act.put, List.setIfInBounds_toArray, List.set_cons_zero, List.set_cons_succ])
      refine takeM 4 (v := ?_) rfl (by kernel_rfl) (by kernel_rfl) (by kernel_rfl) (by kernel_rfl) (fun _ _ _ h => h) (Or.inl ⟨by rfl, ?_⟩) (by assumption) (fun hTill => ?_)
      rotate_left
      · (intro w hSw; go_simp; try with_reducible rfl)
      (try simp only [Act.put, List.setIfInBounds_toArray, List.set_cons_zero, List.set_cons_succ])
      refine takeM 5 (v := ?_) rfl (by kernel_rfl) (by kernel_rfl) (by kernel_rfl) (by kernel_rfl) (fun _ _ _ h => h) (Or.inl ⟨by rfl, ?_⟩) (by assumption) (fun hTill => ?_)
      rotate_left
      · (intro w hSw; go_simp; try with_reducible rfl)
      (try simp only [Act.put, List.setIfInBounds_toArray, List.set_cons_zero, List.set_cons_succ])
      refine takeT 6 (v := ?_) rfl (by kernel_rfl) (by kernel_rfl) (by kernel_rfl) (by kernel_rfl) (by kernel_rfl) (by kernel_rfl) (fun _ _ _ h => h) (Or.inl ⟨by rfl, ?_⟩) (by assumption) (fun hTill => ?_)
      rotate_left
      · (intro w hSw; go_simp; try with_reducible rfl)
      (try simp only [Act.put, List.setIfInBounds_toArray, List.set_cons_zero, List.set_cons_succ])
      refine takeM 7 (v := ?_) rfl (by kernel_rfl) (by kernel_rfl) (by kernel_rfl) (by kernel_rfl) (fun _ _ _ h => h) (Or.inl ⟨by rfl, ?_⟩) (by assumption) (fun hTill => ?_)
      rotate_left
      · (intro w hSw; go_simp; try with_reducible rfl)
      (try simp only [Act.put, List.setIfInBounds_toArray, List.set_cons_zero, List.set_cons_succ])
      refine takeM 8 (v := ?_) rfl (by kernel_rfl) (by kernel_rfl) (by kernel_rfl) (by kernel_rfl) (fun _ _ _ h => h) (Or.inl ⟨by rfl, ?_⟩) (by assumption) (fun hTill => ?_)
      rotate_left
      · (intro w hSw; go_simp; try with_reducible rfl)
      (try simp only [Act.put, List.setIfInBounds_toArray, List.set_cons_zero, List.set_cons_succ])
      refine takeM 9 (v := ?_) rfl (by kernel_rfl) (by kernel_rfl) (by kernel_rfl) (by kernel_rfl) (fun _ _ _ h => h) (Or.inl ⟨by rfl, ?_⟩) (by assumption) (fun hTill => ?_)
      rotate_left
      · (intro w hSw; go_simp; try with_reducible rfl)
      (try simp only [Act.put, List.setIfInBounds_toArray, List.set_cons_zero, List.set_cons_succ])
      refine stepM 10 rfl (by kernel_rfl) (fun K hK => ?_)
      go_simp
      refine hK.out _ _ ?_ (fun hTill => ?_)
      · exact till_over (by kernel_rfl)
      clear hK K
      (try simp only [Act.put, List.setIfInBounds_toArray, List.set_cons_zero, List.set_cons_succ])
      refine doneM (by kernel_rfl) ?_ _
      refine NoPanic.normal ?_
      clear gx gy
      go_wp2
      go_roundw
      case rel => exact ⟨j + 1, by omega, congrArg (Value.int .i64) (by omega), (HOO.out.drew.set (j + 1) _).set j _⟩
      case measure =>
        show 4 - ((j : Int) + 1).toNat < 4 - (j : Int).toNat
        omega
    · obtain ⟨x4, hx4⟩ := HO.cell 4 (by omega)
      have hz4 := HO.thaw 4
      have hGr := HO.upto.blk (by omega) HGG.out
      have hRr := HO.upto.blk (by omega) HGR.out
      have hbr := HBD.out.trans (HO.upto.bel.mono (by omega))
      have rG := range_of_block (cs := cb.map (Value.int .u64)) hGr
      have HBR := Lib.hid hbr
      have HOO := Lib.hid HO
      clear HO hbr
      by_cases hq : x4 / 67108864 = 0
      · have hq1 : (x4 / 67108864 == 0) = true := by rw [hq]; rfl
        clear hq
        go_wp2_with (first
          | refine wpList_load_at (by rfl) 167 (.tmp 1) rfl G 0 (by rfl) (cb.map (Value.int .u64)) _ rG Try.underlying167 rfl hbl ?_
          | (refine wpList_lay (by rfl) 167 (.tmp 2) (.tmp 36) rfl (G + 1) (fv cb) (by rfl) (by rfl) 167 _ hRr 5 hi5 HB5.out rfl honeb ?_; intro w9 hL9))
        try simp only [Exit.inBlock, Exit.then]
        refine bodyPost_ret (results_cell_row rfl _ _ (G + 1) _ _ _ _ rfl hL9.blk Try.underlying167 rfl (by rw [HB5.out]; exact hi5)) rfl ?_
        rw [HG.out]
        exact ⟨⟨cb, HCB.out, rfl⟩, HBR.out.trans (hL9.bel.mono (by omega))⟩
      · have hq1 : (x4 / 67108864 == 0) = false := by simpa using hq
        obtain ⟨⟨cd, hcd, hbk⟩, _⟩ := HOO.out.set 4 (bits BinOp.and IntKind.u64 x4 67108863)
        have rM := range_of_block (cs := cd.map (Value.int .u64)) hbk
        have hdl : (Try.prog.info? 167).map (·.size) = some (cd.map (Value.int .u64)).length := by rw [List.length_map, hcd]; exact hi5
        have hRr2 : (wr.setCell ⟨M, 4, none⟩ (.int .u64 (bits BinOp.and IntKind.u64 x4 67108863))).heap[G + 1]? = _ := (heap_setCell_other wr ⟨M, 4, none⟩ (G + 1) _ (by simp; omega)).trans hRr
        have HD5 := Lib.hid (show (fv cd).size = 5 from by rw [fv_size]; exact hcd)
        have HCD := Lib.hid hcd
        have honed := fv_one cd
        have hb9 : Below G w (wr.setCell ⟨M, 4, none⟩ (.int .u64 (bits BinOp.and IntKind.u64 x4 67108863))) := HBR.out.trans ((Below.refl G wr).setCell (p := ⟨M, 4, none⟩) (by simp; omega) _)
        have HB9 := Lib.hid hb9
        clear hq hbk hcd hb9
        go_wp2_with (first
          | refine wpList_load_at (by rfl) 167 (.tmp 3) rfl M 0 (by rfl) (cd.map (Value.int .u64)) _ rM Try.underlying167 rfl hdl ?_
          | (refine wpList_lay (by rfl) 167 (.tmp 2) (.tmp 41) rfl (G + 1) (fv cd) (by rfl) (by rfl) 167 _ hRr2 5 hi5 HD5.out rfl honed ?_; intro w9 hL9))
        try simp only [Exit.inBlock, Exit.then]
        refine bodyPost_ret (results_cell_row rfl _ _ (G + 1) _ _ _ _ rfl hL9.blk Try.underlying167 rfl (by rw [HD5.out]; exact hi5)) rfl ?_
        rw [HG.out]
        exact ⟨⟨cd, HCD.out, rfl⟩, HB9.out.trans (hL9.bel.mono (by omega))⟩
end Go.Proofs.Ytdiokmaomglefaa
/- Rows of so many bytes; poly.Clamp. -/
namespace Go.Proofs.Ytdiokmaomglefaa
open Go Go.RowKit

/-- A block that holds so many bytes, and of what was there no other one is touched. -/
structure BytesN (n G : Nat) (t : TypeId) (a w : World) : Prop where
  blk : ∃ l : List UInt8, l.length = n ∧ w.heap[G]? = some (.cells (l.map bv).toArray t (0, 0))
  upto : Upto G a w
theorem BytesN.set {n G : Nat} {t : TypeId} {a w : World} (h : BytesN n G t a w) (j : Nat) (b : UInt8) : BytesN n G t a (w.setCell ⟨G, j, none⟩ (bv b)) := by
  obtain ⟨l, hl, hg⟩ := h.blk
  refine ⟨⟨l.set j b, by simpa using hl, ?_⟩, h.upto.setCell _ _⟩
  have := (set_cell (j := j) hg (bv b)).blk
  rw [this]
  simp [List.map_set]
theorem BytesN.setw {n G : Nat} {t : TypeId} {a w : World} (h : BytesN n G t a w) (j : Nat) (z : Int) : BytesN n G t a (w.setCell ⟨G, j, none⟩ (.int .u8 (IntKind.u8.wrap z))) := by
  obtain ⟨b, hb⟩ := bv_wrap z
  rw [hb]
  exact h.set j b
theorem BytesN.setb {n G : Nat} {t : TypeId} {a w : World} (h : BytesN n G t a w) (j : Nat) (o : BinOp) (x y : Int) : BytesN n G t a (w.setCell ⟨G, j, none⟩ (.int .u8 (bits o .u8 x y))) := h.setw j _
theorem BytesN.drew {n G : Nat} {t : TypeId} {a w : World} (h : BytesN n G t a w) : BytesN n G t a w.drew := ⟨h.blk, h.upto.drew⟩
theorem BytesN.cell {n G : Nat} {t : TypeId} {a w : World} (h : BytesN n G t a w) (j : Nat) (hj : j < n) : ∃ b : UInt8, w.cell? ⟨G, j, none⟩ = some (.int .u8 (b.toNat : Int)) := by
  obtain ⟨l, hl, hg⟩ := h.blk
  refine ⟨l[j]'(by omega), ?_⟩
  rw [cell_of_block hg j]
  simp [hl, hj, bv]
theorem BytesN.thaw {n G : Nat} {t : TypeId} {a w : World} (h : BytesN n G t a w) (j : Nat) : w.frozen? ⟨G, j, none⟩ = false := by
  obtain ⟨l, hl, hg⟩ := h.blk
  exact thawed hg j
theorem bytes_one (l : List UInt8) : (l.map bv).toArray.all (·.oneCell') = true := by
  rw [Array.all_eq_true]
  intro i hi
  simp [bv]
  rfl
set_option linter.unusedSimpArgs false in
set_option maxRecDepth 100000 in
set_option maxHeartbeats 4000000 in
theorem clamp_any (l : List UInt8) (hl : l.length = 16) (w : World) :
    Calls Try.prog 99 #[.agg (l.map bv).toArray] w fun e w' => (∃ l' : List UInt8, l'.length = 16 ∧ e = .returned (.agg (l'.map bv).toArray)) ∧ Below w.heap.size w w' := by
  have HL := Lib.hid hl
  have x0 : ∀ w, (Instr.index 180 (.agg #[.int .i64 3, .int .i64 7, .int .i64 11, .int .i64 15]) (.int .i64 0)).run Try.prog w = .ok (.int .i64 3) w := fun w => by kernel_rfl
  have x1 : ∀ w, (Instr.index 180 (.agg #[.int .i64 3, .int .i64 7, .int .i64 11, .int .i64 15]) (.int .i64 1)).run Try.prog w = .ok (.int .i64 7) w := fun w => by kernel_rfl
  have x2 : ∀ w, (Instr.index 180 (.agg #[.int .i64 3, .int .i64 7, .int .i64 11, .int .i64 15]) (.int .i64 2)).run Try.prog w = .ok (.int .i64 11) w := fun w => by kernel_rfl
  have x3 : ∀ w, (Instr.index 180 (.agg #[.int .i64 3, .int .i64 7, .int .i64 11, .int .i64 15]) (.int .i64 3)).run Try.prog w = .ok (.int .i64 15) w := fun w => by kernel_rfl
  have y0 : ∀ w, (Instr.index 181 (.agg #[.int .i64 4, .int .i64 8, .int .i64 12]) (.int .i64 0)).run Try.prog w = .ok (.int .i64 4) w := fun w => by kernel_rfl
  have y1 : ∀ w, (Instr.index 181 (.agg #[.int .i64 4, .int .i64 8, .int .i64 12]) (.int .i64 1)).run Try.prog w = .ok (.int .i64 8) w := fun w => by kernel_rfl
  have y2 : ∀ w, (Instr.index 181 (.agg #[.int .i64 4, .int .i64 8, .int .i64 12]) (.int .i64 2)).run Try.prog w = .ok (.int .i64 12) w := fun w => by kernel_rfl
  clear hl
  go_enter Try.func99, Try.ntmps99
  go_wp2_with fail
  refine code_world (fun w0 e0 => ?_)
  obtain ⟨g1, g2, hb, hs0⟩ := two_alloc e0
  clear e0
  have F0 : BytesN 16 w.heap.size 122 w0 w0 := ⟨⟨l, HL.out, g1⟩, Upto.refl _ _⟩
  obtain ⟨G, hG⟩ : ∃ G, w.heap.size = G := ⟨_, rfl⟩
  have HB := Lib.hid hb
  have HG := Lib.hid hG
  rw [hG] at g2 F0 ⊢
  have HF := Lib.hid F0
  have HR := Lib.hid g2
  clear g1 g2 hb hs0 hG F0
  go_loopw [4, 8] (fun _ i wr => ∃ q : Int, (q = 0 ∨ q = 1 ∨ q = 2 ∨ q = 3 ∨ q = 4) ∧ i = .int .i64 q ∧ BytesN 16 G 122 w0 wr) (fun _ i _ => 4 - (intOf i).toNat)
  case atStart => exact ⟨0, by decide, rfl, HF.out⟩
  case round =>
    clear HF y0 y1 y2
    obtain ⟨q, hq, rfl, HO⟩ := hrel
    rcases hq with rfl | rfl | rfl | rfl | rfl
    · obtain ⟨b, hb⟩ := HO.cell 3 (by omega)
      have hz := HO.thaw 3
      have HOO := Lib.hid HO
      clear HO
      go_wp2
      go_roundw
      case rel => exact ⟨1, by decide, rfl, HOO.out.setb 3 _ _ _⟩
      case measure => simp [intOf]
    · obtain ⟨b, hb⟩ := HO.cell 7 (by omega)
      have hz := HO.thaw 7
      have HOO := Lib.hid HO
      clear HO
      go_wp2
      go_roundw
      case rel => exact ⟨2, by decide, rfl, HOO.out.setb 7 _ _ _⟩
      case measure => simp [intOf]
    · obtain ⟨b, hb⟩ := HO.cell 11 (by omega)
      have hz := HO.thaw 11
      have HOO := Lib.hid HO
      clear HO
      go_wp2
      go_roundw
      case rel => exact ⟨3, by decide, rfl, HOO.out.setb 11 _ _ _⟩
      case measure => simp [intOf]
    · obtain ⟨b, hb⟩ := HO.cell 15 (by omega)
      have hz := HO.thaw 15
      have HOO := Lib.hid HO
      clear HO
      go_wp2
      go_roundw
      case rel => exact ⟨4, by decide, rfl, HOO.out.setb 15 _ _ _⟩
      case measure => simp [intOf]
    · have y0 : ∀ w, (Instr.index 181 (.agg #[.int .i64 4, .int .i64 8, .int .i64 12]) (.int .i64 0)).run Try.prog w = .ok (.int .i64 4) w := fun w => by kernel_rfl
      have y1 : ∀ w, (Instr.index 181 (.agg #[.int .i64 4, .int .i64 8, .int .i64 12]) (.int .i64 1)).run Try.prog w = .ok (.int .i64 8) w := fun w => by kernel_rfl
      have y2 : ∀ w, (Instr.index 181 (.agg #[.int .i64 4, .int .i64 8, .int .i64 12]) (.int .i64 2)).run Try.prog w = .ok (.int .i64 12) w := fun w => by kernel_rfl
      clear x0 x1 x2 x3
      have HF := Lib.hid HO
      clear HO
      go_wp2_with fail
      go_loopw [6, 18] (fun _ i wr => ∃ q : Int, (q = 0 ∨ q = 1 ∨ q = 2 ∨ q = 3) ∧ i = .int .i64 q ∧ BytesN 16 G 122 w0 wr) (fun _ i _ => 3 - (intOf i).toNat)
      case atStart => exact ⟨0, by decide, rfl, HF.out⟩
      case round =>
        clear HF
        obtain ⟨q, hq, rfl, HO⟩ := hrel
        rcases hq with rfl | rfl | rfl | rfl
        · obtain ⟨b, hb⟩ := HO.cell 4 (by omega)
          have hz := HO.thaw 4
          have HOO := Lib.hid HO
          clear HO
          go_wp2
          go_roundw
          case rel => exact ⟨1, by decide, rfl, HOO.out.setb 4 _ _ _⟩
          case measure => simp [intOf]
        · obtain ⟨b, hb⟩ := HO.cell 8 (by omega)
          have hz := HO.thaw 8
          have HOO := Lib.hid HO
          clear HO
          go_wp2
          go_roundw
          case rel => exact ⟨2, by decide, rfl, HOO.out.setb 8 _ _ _⟩
          case measure => simp [intOf]
        · obtain ⟨b, hb⟩ := HO.cell 12 (by omega)
          have hz := HO.thaw 12
          have HOO := Lib.hid HO
          clear HO
          go_wp2
          go_roundw
          case rel => exact ⟨3, by decide, rfl, HOO.out.setb 12 _ _ _⟩
          case measure => simp [intOf]
        · obtain ⟨l2, hl2, hbk⟩ := HO.blk
          have gR := HO.upto.blk (by omega) HR.out
          have hi16 : (Try.prog.info? 122).map (·.size) = some 16 := by kernel_rfl
          have hil : (Try.prog.info? 122).map (·.size) = some (l2.map bv).length := by rw [List.length_map, hl2]; exact hi16
          have rr := range_of_block hbk
          have HS := Lib.hid (show (l2.map bv).toArray.size = 16 from by simpa using hl2)
          have HU := Lib.hid HO.upto.bel
          have H2 := Lib.hid hl2
          have hone := bytes_one l2
          clear HO hl2
          go_wp2_with (first
            | refine wpList_load_at (by rfl) 122 (.tmp 1) rfl G 0 (by rfl) (l2.map bv) _ rr Try.underlying122 rfl hil ?_
            | (refine wpList_lay (by rfl) 122 (.tmp 2) (.tmp 27) rfl (G + 1) (l2.map bv).toArray (by rfl) (by rfl) 122 _ gR 16 hi16 HS.out rfl hone ?_; intro w9 hL9))
          try simp only [Exit.inBlock, Exit.then]
          refine bodyPost_ret (results_cell_row rfl _ _ (G + 1) _ _ _ _ rfl hL9.blk Try.underlying122 rfl (by rw [HS.out]; exact hi16)) rfl ?_
          have hG := HG.out
          exact ⟨⟨l2, H2.out, rfl⟩, HB.out.trans ((HU.out.mono (by omega)).trans (hL9.bel.mono (by omega)))⟩
end Go.Proofs.Ytdiokmaomglefaa
/- The three new blocks of poly.Sum's round: the part with its one behind it, the one, the number. -/
namespace Go.Proofs.Ytdiokmaomglefaa
open Go Go.RowKit

structure Mk (N : Nat) (a : World) (r : Option (Nat × List UInt8)) (o u : Option Nat) (w : World) : Prop where
  bel : Below N a w
  size : N ≤ w.heap.size
  row : ∀ g xs, r = some (g, xs) → N ≤ g ∧ ∃ cur, w.heap[g]? = some (.cells cur 5 (0, 0)) ∧ cur.size = 17 ∧ cur.toList.take xs.length = xs.map bv
  one : ∀ k, o = some k → N ≤ k ∧ w.heap[k]? = some (.cells ([(1 : UInt8)].map bv).toArray 5 (0, 0)) ∧ ∀ g xs, r = some (g, xs) → g ≠ k
  num : ∀ k, u = some k → N ≤ k ∧ w.heap[k]? = some (.cells (fv [0, 0, 0, 0, 0]) 167 (0, 0)) ∧ ∀ g xs, r = some (g, xs) → g ≠ k
theorem Mk.start {a w : World} (hb : Below a.heap.size a w) : Mk a.heap.size a none none none w :=
  ⟨hb, hb.size, fun _ _ h => (by cases h), fun _ h => (by cases h), fun _ h => (by cases h)⟩
theorem Mk.on {N : Nat} {a w w' : World} {r : Option (Nat × List UInt8)} {o u : Option Nat} (h : Mk N a r o u w) (hb : Below w.heap.size w w') : Mk N a r o u w' := by
  refine ⟨h.bel.trans (hb.mono h.size), Nat.le_trans h.size hb.size, fun g xs e => ?_, fun k e => ?_, fun k e => ?_⟩
  · obtain ⟨h1, cur, h2, h3⟩ := h.row g xs e
    exact ⟨h1, cur, blk_on h2 hb, h3⟩
  · obtain ⟨h1, h2, h3⟩ := h.one k e
    exact ⟨h1, blk_on h2 hb, h3⟩
  · obtain ⟨h1, h2, h3⟩ := h.num k e
    exact ⟨h1, blk_on h2 hb, h3⟩
theorem Mk.below {N : Nat} {a w : World} {r : Option (Nat × List UInt8)} {o u : Option Nat} {ob : Obj} (h : Mk N a r o u w) : Mk N a r o u (w.alloc ob) := h.on ((Below.refl _ w).alloc (Nat.le_refl _) _)
theorem Mk.row_lt {N : Nat} {a w : World} {r : Option (Nat × List UInt8)} {o u : Option Nat} (h : Mk N a r o u w) {g : Nat} {xs : List UInt8} (e : r = some (g, xs)) : g < w.heap.size := by
  obtain ⟨_, cur, h2, _⟩ := h.row g xs e
  exact block_lt h2
theorem Mk.make {N : Nat} {a w w' : World} {o u : Option Nat} {cur : Array Value} (h : Mk N a none o u w) (e : w' = w.alloc (.cells cur 5)) (hc : cur.size = 17) : Mk N a (some (w.heap.size, [])) o u w' := by
  subst e
  have hb := h.below (ob := .cells cur 5)
  refine ⟨hb.bel, hb.size, fun g xs e => ?_, fun k e => ?_, fun k e => ?_⟩
  · obtain ⟨rfl, rfl⟩ := Prod.mk.inj (Option.some.inj e)
    exact ⟨h.size, cur, heap_alloc_new _ _, hc, by simp⟩
  · obtain ⟨h1, h2, _⟩ := hb.one k e
    refine ⟨h1, h2, fun g xs eg => ?_⟩
    obtain ⟨rfl, rfl⟩ := Prod.mk.inj (Option.some.inj eg)
    have := block_lt (h.one k e).2.1
    omega
  · obtain ⟨h1, h2, _⟩ := hb.num k e
    refine ⟨h1, h2, fun g xs eg => ?_⟩
    obtain ⟨rfl, rfl⟩ := Prod.mk.inj (Option.some.inj eg)
    have := block_lt (h.num k e).2.1
    omega
theorem Mk.lit {N : Nat} {a w w' : World} {r : Option (Nat × List UInt8)} {u : Option Nat} (h : Mk N a r none u w) (e : w' = w.alloc (.cells #[.int .u8 1] 5)) : Mk N a r (some w.heap.size) u w' := by
  subst e
  have hb := h.below (ob := .cells #[.int .u8 1] 5)
  refine ⟨hb.bel, hb.size, hb.row, fun k e => ?_, hb.num⟩
  obtain rfl := Option.some.inj e
  refine ⟨h.size, heap_alloc_new _ _, fun g xs eg => ?_⟩
  have := h.row_lt eg
  omega
theorem Mk.var {N : Nat} {a w w' : World} {r : Option (Nat × List UInt8)} {o : Option Nat} (h : Mk N a r o none w) (e : w' = w.alloc (.cells #[.int .u64 0, .int .u64 0, .int .u64 0, .int .u64 0, .int .u64 0] 167)) : Mk N a r o (some w.heap.size) w' := by
  subst e
  have hb := h.below (ob := .cells #[.int .u64 0, .int .u64 0, .int .u64 0, .int .u64 0, .int .u64 0] 167)
  refine ⟨hb.bel, hb.size, hb.row, hb.one, fun k e => ?_⟩
  obtain rfl := Option.some.inj e
  refine ⟨h.size, heap_alloc_new _ _, fun g xs eg => ?_⟩
  have := h.row_lt eg
  omega
theorem Mk.set {N : Nat} {a w w' : World} {g : Nat} {xs ys : List UInt8} {o u : Option Nat} {cur : Array Value} (h : Mk N a (some (g, xs)) o u w) (hL : Laid w g cur 5 w') (hc : cur.size = 17) (ht : cur.toList.take ys.length = ys.map bv) : Mk N a (some (g, ys)) o u w' := by
  have hg := (h.row g xs rfl).1
  refine ⟨h.bel.trans (hL.bel.mono hg), by rw [hL.size]; exact h.size, fun g' xs' e => ?_, fun k e => ?_, fun k e => ?_⟩
  · obtain ⟨rfl, rfl⟩ := Prod.mk.inj (Option.some.inj e)
    exact ⟨hg, cur, hL.blk, hc, ht⟩
  · obtain ⟨h1, h2, h3⟩ := h.one k e
    have hne := h3 g xs rfl
    refine ⟨h1, (hL.rest k (Ne.symm hne)).trans h2, fun g' xs' e' => ?_⟩
    obtain ⟨rfl, rfl⟩ := Prod.mk.inj (Option.some.inj e')
    exact hne
  · obtain ⟨h1, h2, h3⟩ := h.num k e
    have hne := h3 g xs rfl
    refine ⟨h1, (hL.rest k (Ne.symm hne)).trans h2, fun g' xs' e' => ?_⟩
    obtain ⟨rfl, rfl⟩ := Prod.mk.inj (Option.some.inj e')
    exact hne
theorem Mk.bt {N : Nat} {a w : World} {g : Nat} {xs : List UInt8} {o u : Option Nat} (h : Mk N a (some (g, xs)) o u w) (hl : xs.length ≤ 17) : Bt w (.slice (some ⟨g, 0, none⟩) xs.length 17) xs := by
  obtain ⟨_, cur, h2, h3, h4⟩ := h.row g xs rfl
  refine ⟨_, 17, rfl, (fun e => by cases e), hl, by unfold maxLen; omega, by omega, fun _ => ⟨g, 0, rfl, block_lt h2, fun j hj => ?_⟩⟩
  rw [Nat.zero_add, cell_of_block h2 j]
  have h5 : (cur.toList.take xs.length)[j]? = (xs.map bv)[j]? := by rw [h4]
  rw [List.getElem?_take_of_lt hj] at h5
  simpa [hj] using h5
theorem Mk.bt1 {N : Nat} {a w : World} {k : Nat} {r : Option (Nat × List UInt8)} {u : Option Nat} (h : Mk N a r (some k) u w) : Bt w (.slice (some ⟨k, 0, none⟩) 1 1) [1] := by
  obtain ⟨_, h2, _⟩ := h.one k rfl
  refine ⟨_, 1, rfl, (fun e => by cases e), by simp, by unfold maxLen; omega, by simp, fun _ => ⟨k, 0, rfl, block_lt h2, fun j hj => ?_⟩⟩
  rw [Nat.zero_add, cell_of_block h2 j]
  obtain rfl : j = 0 := by simpa using hj
  rfl
theorem step_app {P : Program} (w : World) {ops : Array Oper} {o : Oper} {a : Act} {Q : Exit → Act → World → Prop} {K : Act → World → Prop} (hw : Region.wanted o (yielded ops a.tmps) = true) (s x : Operand) (t : TypeId)
    (ho : o.op = .call { callee := .builtin .append, args := #[s, x], argTypes := #[t, t] }) (i : TypeInfo) (ht : P.underlying t = some (.slice 5)) (hi : P.info? 5 = some i) (hsz : i.size = 1)
    {N : Nat} {a0 : World} {g : Nat} {xs : List UInt8} {oo u : Option Nat} (hM : Mk N a0 (some (g, xs)) oo u w) (n : Nat) (hn : n = xs.length) (hs : a.eval s = .slice (some ⟨g, 0, none⟩) n 17)
    (b off m c : Nat) (ys : List UInt8) (hx : a.eval x = .slice (some ⟨b, off, none⟩) m c) (hB : Bt w (.slice (some ⟨b, off, none⟩) m c) ys) (hy : 0 < ys.length) (hfit : xs.length + ys.length ≤ 17)
    (h : ∀ w' n', n' = (xs ++ ys).length → Mk N a0 (some (g, xs ++ ys)) oo u w' → K (a.put o.dst (.slice (some ⟨g, 0, none⟩) n' 17)) w') : if Region.wanted o (yielded ops a.tmps) then o.wp P a w K Q else K (a.put o.dst undef) w := by
  rw [if_pos hw]
  subst hn
  obtain ⟨rfl, _, _, _⟩ := hB.len
  obtain ⟨b', off', e1, hlt, hcell⟩ := hB.where hy
  cases e1
  obtain ⟨hg, cur, h2, h3, h4⟩ := hM.row g xs rfl
  have hr := run_append_room (P := P) w t o.type 5 i ht hi g xs.length 17 cur h2 ⟨b, off, none⟩ ys.length c (ys.map bv) (by simp [hsz])
    (fun j v hj => by
      rw [Go.WideShapes.add_plain]
      have hj' : j < ys.length := by
        rcases Nat.lt_or_ge j ys.length with hh | hh
        · exact hh
        · simp [List.getElem?_eq_none (show (ys.map bv).length ≤ j by simpa using hh)] at hj
      rw [hcell j hj', ← hj]
      simp [hj']) (bv_one _) hfit (by simp [hsz, h3]; omega)
  unfold Oper.wp execOp
  simp only [ho, resolve, invoke, builtin, Sem.run_bind, Sem.run_pure, Result.andThen_ok, List.map_toArray, List.map_cons, List.map_nil, hs, hx, hr]
  rw [hsz, Nat.mul_one]
  refine h _ _ (by simp) (Mk.set hM ⟨setRow_heap _ _ _ _ _ _ h2, below_setRow (Below.refl _ _) (Nat.le_refl _) _, by simp [World.setRow], fun k hk => setRow_other _ _ _ _ hk⟩ ?_ ?_)
  · simp [h3]
    omega
  · rw [h4]
    have : (xs ++ ys).length = (xs.map bv ++ ys.map bv).length := by simp
    rw [this]
    show List.take _ ((xs.map bv ++ ys.map bv) ++ _) = _
    rw [List.take_left]
    simp
end Go.Proofs.Ytdiokmaomglefaa
