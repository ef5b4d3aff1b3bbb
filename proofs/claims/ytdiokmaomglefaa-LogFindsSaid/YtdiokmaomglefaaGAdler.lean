/- Check sums: adler.Sum. -/
import Derived.Test.YtdiokmaomglefaaMA
import Derived.Laws.BitsAllLaws
namespace Go.Proofs.Ytdiokmaomglefaa
open Go Go.RowKit

theorem or_halves (a b : Nat) (ha : a < 65536) (hb : b < 65536) : bits .or .u32 ((a : Int) * 65536) (b : Int) = ((a * 65536 + b : Nat) : Int) := by
  rw [u32_or _ _ (by omega) (by omega) (by omega) (by omega)]
  congr 1
  have h1 : ((a : Int) * 65536).toNat = a <<< 16 := by rw [Nat.shiftLeft_eq]; omega
  have h2 : ((b : Int)).toNat = b := by omega
  rw [h1, h2, ← Nat.shiftLeft_add_eq_or_of_lt (by omega), Nat.shiftLeft_eq]
def adsum (x y : Nat) : Nat := y % 65521 * 65536 + x % 65521
theorem adsum_or (x y : Nat) : bits .or .u32 (((y % 65521 : Nat) : Int) * 65536) ((x % 65521 : Nat) : Int) = (adsum x y : Int) := by
  have h1 : y % 65521 < 65521 := Nat.mod_lt _ (by decide)
  have h2 : x % 65521 < 65521 := Nat.mod_lt _ (by decide)
  unfold adsum
  generalize y % 65521 = a at *
  generalize x % 65521 = b at *
  exact or_halves a b (by omega) (by omega)
theorem tmod_nat (x : Nat) : (x : Int).tmod 65521 = ((x % 65521 : Nat) : Int) := by
  rw [Int.tmod_eq_emod_of_nonneg (by omega)]
  omega
theorem asum_any (x y : Nat) (w : World) :
    Calls Try.prog 95 #[.agg #[.int .u64 x, .int .u64 y]] w fun e w' => e = .returned (.int .u32 (adsum x y)) ∧ Below w.heap.size w w' := by
  have hb0 : Below w.heap.size w (w.alloc (.cells #[.int .u64 x, .int .u64 y] 156)) := (Below.refl _ w).alloc (Nat.le_refl _) _
  have ho := adsum_or x y
  have i1 := tmod_nat x
  have i2 := tmod_nat y
  obtain ⟨a, ha⟩ : ∃ a, y % 65521 = a := ⟨_, rfl⟩
  obtain ⟨b, hb⟩ : ∃ b, x % 65521 = b := ⟨_, rfl⟩
  rw [ha, hb] at ho
  rw [hb] at i1
  rw [ha] at i2
  have ha2 : a < 65536 := by omega
  have hb2 : b < 65536 := by omega
  clear ha hb
  go_enter Try.func95, Try.ntmps95
  go_wp2_with fail
  go_ret
  exact ⟨rfl, hb0⟩
theorem ahalf_any (x : Nat) (hx : x < 65521) (w : World) :
    Calls Try.prog 106 #[.int .u32 x] w fun e w' => e = .returned (.int .u64 x) ∧ Below w.heap.size w w' := by
  have h1 : (x : Int).tmod 65521 = x := by rw [tmod_nat, Nat.mod_eq_of_lt hx]
  go_enter Try.func106, Try.ntmps106
  go_wp2_with fail
  go_ret
  exact ⟨rfl, Below.refl _ _⟩
theorem halves_one (w : World) :
    Calls Try.prog 94 #[.int .u32 1] w fun e w' => e = .returned (.agg #[.int .u64 1, .int .u64 0]) ∧ Below w.heap.size w w' := by
  have h1 : bits .and .u32 1 65535 = 1 := by decide +kernel
  have hb0 : Below w.heap.size w (w.alloc (.cells #[.int .u64 0, .int .u64 0] 156)) := (Below.refl _ w).alloc (Nat.le_refl _) _
  go_enter Try.func94, Try.ntmps94
  go_wp2_with fail
  refine (ahalf_any 1 (by decide) _).mono ?_
  rintro e w1 ⟨rfl, hb1⟩
  go_wp2_with fail
  refine (ahalf_any 0 (by decide) _).mono ?_
  rintro e w2 ⟨rfl, hb2⟩
  have hb12 := hb1.trans (hb2.mono hb1.size)
  have hR2 := blk_on (heap_alloc_new w (.cells #[.int .u64 0, .int .u64 0] 156)) hb12
  have c0 : w2.cell? ⟨w.heap.size, 0, none⟩ = some (.int .u64 0) := (cell_of_block hR2 0).trans rfl
  have c1 : w2.cell? ⟨w.heap.size, 1, none⟩ = some (.int .u64 0) := (cell_of_block hR2 1).trans rfl
  have f0 := thawed hR2
  have s1 := set_cell (j := 0) hR2 (.int .u64 1)
  have s2 := set_cell (j := 1) s1.blk (.int .u64 0)
  have S1 := Lib.hid s1
  have S2 := Lib.hid s2
  clear s1 s2
  go_wp2_with fail
  refine bodyPost_ret (results_cell_row rfl _ _ w.heap.size _ _ _ _ rfl S2.out.blk Try.underlying156 rfl (by kernel_rfl)) rfl ?_
  exact ⟨rfl, (hb0.trans (hb12.mono hb0.size)).trans (S1.out.bel.trans S2.out.bel)⟩
/-- Both halves behind so many bytes. -/
theorem adl_snoc (l : List UInt8) (j : Nat) (h : j < l.length) : adl (l.take (j + 1)) = (((adl (l.take j)).1 + l[j].toNat) % 65521, (adl (l.take j)).2 + ((adl (l.take j)).1 + l[j].toNat) % 65521) := by
  rw [List.take_succ_eq_append_getElem h]
  unfold adl
  rw [List.foldl_append]
  rfl
theorem adl_bound (l : List UInt8) : ∀ j, j ≤ l.length → (adl (l.take j)).1 < 65521 ∧ (adl (l.take j)).2 ≤ 65521 * j := by
  intro j
  induction j with
  | zero => intro _; simp [adl]
  | succ j ih =>
    intro h
    obtain ⟨h1, h2⟩ := ih (by omega)
    rw [adl_snoc l j (by omega)]
    generalize (adl (l.take j)).1 + l[j].toNat = x
    have : x % 65521 < 65521 := Nat.mod_lt _ (by decide)
    simp only
    omega
set_option maxHeartbeats 1000000 in
theorem more_any (a : Option Addr) (n cap : Nat) (l : List UInt8) (w : World) (h : Bt w (.slice a n cap) l) :
    Calls Try.prog 82 #[.int .u32 1, .slice a n cap] w fun e w' => e = .returned (.int .u32 (adler l)) ∧ Below w.heap.size w w' := by
  obtain ⟨rfl, p1, p2, p3⟩ := h.len
  go_enter Try.func82, Try.ntmps82
  go_wp2_with fail
  refine (halves_one w).mono ?_
  rintro e w1 ⟨rfl, hb1⟩
  go_wp2_with fail
  have hb2 : Below w1.heap.size w1 (w1.alloc (.cells #[.int .u64 1, .int .u64 0] 156)) := (Below.refl _ w1).alloc (Nat.le_refl _) _
  have hz2 : w1.heap.size < (w1.alloc (.cells #[.int .u64 1, .int .u64 0] 156)).heap.size := by simp
  have hR2 := heap_alloc_new w1 (.cells #[.int .u64 1, .int .u64 0] 156)
  generalize w1.alloc (.cells #[.int .u64 1, .int .u64 0] 156) = w2 at *
  obtain ⟨B, hB⟩ : ∃ B, w1.heap.size = B := ⟨_, rfl⟩
  have HB := Lib.hid hB
  rw [hB] at hb2 hz2 hR2 ⊢
  clear hB
  have h1 := h.below hb1
  clear h
  go_loopw [7, 12] (fun _ i wr => ∃ j : Nat, j ≤ l.length ∧ i = .int .i64 j ∧ wr.heap[B]? = some (.cells #[.int .u64 (adl (l.take j)).1, .int .u64 (adl (l.take j)).2] 156 (0, 0)) ∧ Below B w1 wr) (fun _ i _ => l.length - (intOf i).toNat)
  case atStart => exact ⟨0, by omega, rfl, hR2, hb2⟩
  case round =>
    obtain ⟨j, hj, rfl, hRr, hbr⟩ := hrel
    obtain ⟨q1, q2⟩ := adl_bound l j hj
    by_cases hlt : j < l.length
    · have h1r := h1.below (by rw [HB.out]; exact hbr)
      obtain ⟨b, off, rfl, hb, hc⟩ := h1r.where (by omega)
      have hcj := h1r.at j hlt
      have hsn := adl_snoc l j hlt
      have hx := (l[j]).toNat_lt
      generalize l[j].toNat = x at *
      generalize (adl (l.take j)).1 = y at *
      generalize (adl (l.take j)).2 = z at *
      have t1 : ((y : Int) + x).tmod 65521 = (((y + x) % 65521 : Nat) : Int) := by rw [← tmod_nat]; rfl
      obtain ⟨m, hm⟩ : ∃ m, (y + x) % 65521 = m := ⟨_, rfl⟩
      have hm2 : m < 65521 := by rw [← hm]; exact Nat.mod_lt _ (by decide)
      rw [hm] at t1 hsn
      have hf := thawed hRr
      have s1 := set_cell (j := 0) hRr (.int .u64 m)
      have s2 := set_cell (j := 1) s1.blk (.int .u64 ((z + m : Nat) : Int))
      have hf1 := thawed s1.blk 1
      have c0 : wr.cell? ⟨B, 0, none⟩ = some (.int .u64 y) := (cell_of_block hRr 0).trans rfl
      have c1 : wr.cell? ⟨B, 1, none⟩ = some (.int .u64 z) := (cell_of_block hRr 1).trans rfl
      have d0 : (wr.setCell ⟨B, 0, none⟩ (.int .u64 m)).cell? ⟨B, 0, none⟩ = some (.int .u64 m) := (cell_of_block s1.blk 0).trans rfl
      have d1 : (wr.setCell ⟨B, 0, none⟩ (.int .u64 m)).cell? ⟨B, 1, none⟩ = some (.int .u64 z) := (cell_of_block s1.blk 1).trans rfl
      have i1 : (0 : Int) ≤ (j : Int) := by omega
      have i2 : (j : Int) < (l.length : Int) := by omega
      have HSN := Lib.hid hsn
      have S2 := Lib.hid s2
      have S1 := Lib.hid s1
      have hf0 := hf 0
      clear hsn s1 s2 hc hm h1 h1r hf
      go_wp2_with fail
      refine ⟨⟨j + 1, by omega, congrArg (Value.int .i64) (by omega), ?_, hbr.trans (S1.out.bel.trans ?_)⟩, ?_⟩
      · rw [HSN.out]
        have := S2.out.blk
        simpa using this
      · have := S2.out.bel
        simpa using this
      · show l.length - ((j : Int) + 1).toNat < l.length - (j : Int).toNat
        omega
    · obtain rfl : j = l.length := by omega
      rw [List.take_length] at hRr q1 q2
      have c0 : wr.cell? ⟨B, 0, none⟩ = some (.int .u64 (adl l).1) := (cell_of_block hRr 0).trans rfl
      have c1 : wr.cell? ⟨B, 1, none⟩ = some (.int .u64 (adl l).2) := (cell_of_block hRr 1).trans rfl
      clear h1
      go_wp2_with fail
      refine (asum_any _ _ wr).mono ?_
      rintro e w3 ⟨rfl, hb3⟩
      have hs1 := hb1.size
      go_wp2
      go_ret
      rw [← HB.out] at hbr
      exact ⟨rfl, hb1.trans ((hbr.trans (hb3.mono hbr.size)).mono hs1)⟩
theorem asumall_any (a : Option Addr) (n cap : Nat) (l : List UInt8) (w : World) (h : Bt w (.slice a n cap) l) :
    Calls Try.prog 60 #[.slice a n cap] w fun e w' => e = .returned (.int .u32 (adler l)) ∧ Below w.heap.size w w' := by
  go_enter Try.func60, Try.ntmps60
  go_wp2_with fail
  refine (more_any a n cap l w h).mono ?_
  rintro e w1 ⟨rfl, hb1⟩
  go_wp2
  go_ret
  exact ⟨rfl, hb1⟩
end Go.Proofs.Ytdiokmaomglefaa
