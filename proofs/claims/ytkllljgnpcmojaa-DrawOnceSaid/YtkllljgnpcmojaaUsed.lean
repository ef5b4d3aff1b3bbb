/- How many draws are taken, and how many are left. -/
import Derived.Test.YtkllljgnpcmojaaKeys
import Derived.Deep.RegionHeld3
namespace Go.Proofs.Ytkllljgnpcmojaa
open Go Go.RowKit

/-- Of n draws so many are taken. -/
def un (u : Int) (n : Nat) : Nat := (min (max u 0) n).toNat
theorem un_le (u : Int) (n : Nat) : un u n ≤ n := by unfold un; omega
theorem un_int (u : Int) (n : Nat) : (un u n : Int) = min (max u 0) n := by unfold un; omega
theorem used_any (a : Option Addr) (n cap : Nat) (u : Int) (w : World) :
    Calls Try.prog 25 #[.agg #[.slice a n cap, .int .i64 u]] w fun e w' => e = .returned (.int .i64 (un u n)) ∧ Below w.heap.size w w' := by
  rw [un_int]
  go_enter Try.func25, Try.ntmps25
  go_wp2_with fail
  go_ret
  exact ⟨rfl, (Below.refl _ w).alloc (Nat.le_refl _) _⟩
theorem refused_any (a : Option Addr) (n cap : Nat) (u : Int) (w : World) :
    Calls Try.prog 27 #[.agg #[.slice a n cap, .int .i64 u]] w fun e w' => e = .returned (.int .i64 (un u n)) ∧ Below w.heap.size w w' := by
  rw [un_int]
  go_enter Try.func27, Try.ntmps27
  go_wp2_with fail
  go_ret
  exact ⟨rfl, (Below.refl _ w).alloc (Nat.le_refl _) _⟩

theorem below_self_drew (w : World) : Below w.heap.size w w.drew := (Below.refl _ w).drew
/-- What is read off a source that lies in a block of its own. -/
theorem src_cells (w : World) (a : Option Addr) (n cap : Nat) (u : Int) :
    (w.alloc (.cells #[.slice a n cap, .int .i64 u] 24)).cell? ⟨w.heap.size, 0, none⟩ = some (.slice a n cap) ∧ (w.alloc (.cells #[.slice a n cap, .int .i64 u] 24)).cell? ⟨w.heap.size, 1, none⟩ = some (.int .i64 u) := by
  constructor <;> simp [World.cell?_alloc_mark]
theorem left_any (a : Option Addr) (n cap : Nat) (u : Int) (w : World) (hn : n ≤ 140737488355328) :
    Calls Try.prog 17 #[.agg #[.slice a n cap, .int .i64 u]] w fun e w' => e = .returned (.int .i64 (n - un u n : Nat)) ∧ Below w.heap.size w w' := by
  have hu := un_le u n
  have hw : IntKind.i64.wrap ((n : Int) - (un u n : Int)) = ((n - un u n : Nat) : Int) := (IntWalk.i64_in _ (by omega)).trans (by omega)
  obtain ⟨hc0, hc1⟩ := src_cells w a n cap u
  have hb0 : Below w.heap.size w (w.alloc (.cells #[.slice a n cap, .int .i64 u] 24)) := (Below.refl _ w).alloc (Nat.le_refl _) _
  have hlt : w.heap.size < (w.alloc (.cells #[.slice a n cap, .int .i64 u] 24)).heap.size := by simp
  go_enter Try.func17, Try.ntmps17
  go_wp2_with fail
  generalize hw1 : w.alloc (.cells #[.slice a n cap, .int .i64 u] 24) = w1 at *
  generalize hB : w.heap.size = B at *
  have HW := Lib.hid hw1
  have HB := Lib.hid hB
  clear hw1 hB
  have hl0 : ∀ w', Below w1.heap.size w1 w' → w'.cell? ⟨B, 0, none⟩ = some (.slice a n cap) := fun w' h => (h.cell (p := ⟨B, 0, none⟩) hlt).trans hc0
  have hl1 : ∀ w', Below w1.heap.size w1 w' → w'.cell? ⟨B, 1, none⟩ = some (.int .i64 u) := fun w' h => (h.cell (p := ⟨B, 1, none⟩) hlt).trans hc1
  go_region_held3 (fun w' => Below w1.heap.size w1 w') (first | assumption | exact below_self_drew _ | exact below_next ‹_› ‹_›) (first | (go_at_call 25; refine (used_any _ _ _ _ _).mono ?_; rintro e w' ⟨rfl, hb⟩))
  rename_i hH
  go_wp2
  go_ret
  have hB := HB.out
  subst hB
  exact ⟨rfl, hb0.trans (hH.mono hb0.size)⟩
theorem refleft_any (a : Option Addr) (n cap : Nat) (u : Int) (w : World) (hn : n ≤ 140737488355328) :
    Calls Try.prog 18 #[.agg #[.slice a n cap, .int .i64 u]] w fun e w' => e = .returned (.int .i64 (n - un u n : Nat)) ∧ Below w.heap.size w w' := by
  have hu := un_le u n
  have hw : IntKind.i64.wrap ((n : Int) - (un u n : Int)) = ((n - un u n : Nat) : Int) := (IntWalk.i64_in _ (by omega)).trans (by omega)
  obtain ⟨hc0, hc1⟩ := src_cells w a n cap u
  have hb0 : Below w.heap.size w (w.alloc (.cells #[.slice a n cap, .int .i64 u] 24)) := (Below.refl _ w).alloc (Nat.le_refl _) _
  have hlt : w.heap.size < (w.alloc (.cells #[.slice a n cap, .int .i64 u] 24)).heap.size := by simp
  go_enter Try.func18, Try.ntmps18
  go_wp2_with fail
  generalize hw1 : w.alloc (.cells #[.slice a n cap, .int .i64 u] 24) = w1 at *
  generalize hB : w.heap.size = B at *
  have HW := Lib.hid hw1
  have HB := Lib.hid hB
  clear hw1 hB
  have hl0 : ∀ w', Below w1.heap.size w1 w' → w'.cell? ⟨B, 0, none⟩ = some (.slice a n cap) := fun w' h => (h.cell (p := ⟨B, 0, none⟩) hlt).trans hc0
  have hl1 : ∀ w', Below w1.heap.size w1 w' → w'.cell? ⟨B, 1, none⟩ = some (.int .i64 u) := fun w' h => (h.cell (p := ⟨B, 1, none⟩) hlt).trans hc1
  go_region_held3 (fun w' => Below w1.heap.size w1 w') (first | assumption | exact below_self_drew _ | exact below_next ‹_› ‹_›) (first | (go_at_call 27; refine (refused_any _ _ _ _ _).mono ?_; rintro e w' ⟨rfl, hb⟩))
  rename_i hH
  go_wp2
  go_ret
  have hB := HB.out
  subst hB
  exact ⟨rfl, hb0.trans (hH.mono hb0.size)⟩
end Go.Proofs.Ytkllljgnpcmojaa
