/- Where a key stands in a slice of keys. -/
import Derived.Test.YtkllljgnpcmojaaKs
import Derived.Test.YtkllljgnpcmojaaRegion
namespace Go.Proofs.Ytkllljgnpcmojaa
open Go Go.RowKit

/-- A load of a whole key. -/
theorem load_key {w : World} {b o : Nat} {k : Key} (h : w.rangeAt b o (kc k)) : (Instr.loadAt 26 (.pointer (some ⟨b, o, none⟩))).run Try.prog w = .ok (.agg (kc k).toArray) w :=
  run_loadAt_mid w b o 26 (kc k) _ h Try.underlying26 rfl (by rw [kc_length]; exact info_key)
theorem range_below {w w' : World} {b o : Nat} {cs : List Value} (h : w.rangeAt b o cs) (hb : Below w.heap.size w w') (hlt : b < w.heap.size) : w'.rangeAt b o cs :=
  fun j v hj => (hb.cell (p := ⟨b, o + j, none⟩) hlt).trans (h j v hj)
theorem range_boxed (w : World) (k : Key) : (w.alloc (.cells (kc k).toArray 26)).rangeAt w.heap.size 0 (kc k) := fun j v hj => by
  rw [World.cell?_alloc_at _ _ _ _ rfl]
  simpa using hj

theorem key_info (k : Key) : (Try.prog.info? 26).map (·.size) = some (kc k).length := by rw [kc_length]; exact info_key
theorem keyindex_any (a : Option Addr) (n cap : Nat) (l : List Key) (k : Key) (w : World) (h : Ks w (.slice a n cap) l) :
    Calls Try.prog 35 #[.slice a n cap, .agg (kc k).toArray] w fun e w' => (∃ r : Int, e = .returned (.int .i64 r) ∧ (0 ≤ r ↔ k ∈ l) ∧ -1 ≤ r ∧ r ≤ 140737488355328) ∧ Below w.heap.size w w' := by
  obtain ⟨rfl, hl1, hl2, hl3⟩ := h.len
  have hb0 : Below w.heap.size w (w.alloc (.cells (kc k).toArray 26)) := (Below.refl _ w).alloc (Nat.le_refl _) _
  have hr0 := range_boxed w k
  have hlt : w.heap.size < (w.alloc (.cells (kc k).toArray 26)).heap.size := by simp
  have hk0 := h.below hb0
  go_enter Try.func35, Try.ntmps35
  go_wp2_with fail
  generalize hw1 : w.alloc (.cells (kc k).toArray 26) = w1 at *
  generalize hB : w.heap.size = B at *
  have HW := Lib.hid hw1
  have HB := Lib.hid hB
  clear hw1 hB
  go_loopw [5, 8] (fun _ i wr => ∃ j : Nat, j ≤ l.length ∧ i = .int .i64 j ∧ Below w1.heap.size w1 wr ∧ k ∉ l.take j) (fun _ i _ => l.length - (intOf i).toNat)
  case atStart => exact ⟨0, by omega, rfl, Below.refl _ _, by simp⟩
  case round =>
    obtain ⟨j, hj, rfl, hbw, hno⟩ := hrel
    by_cases hlt2 : j < l.length
    · obtain ⟨y, hy⟩ : ∃ y, l[j]? = some y := ⟨_, List.getElem?_eq_getElem hlt2⟩
      obtain ⟨b, off, rfl, hb, hr⟩ := hk0.at j y hy
      have hl0 : ∀ w', Below wr.heap.size wr w' → w'.rangeAt B 0 (kc k) := fun w' hw' => range_below (range_below hr0 hbw hlt) hw' (Nat.lt_of_lt_of_le hlt hbw.size)
      have hl1 : ∀ w', Below wr.heap.size wr w' → w'.rangeAt b (off + j * 32) (kc y) := fun w' hw' => range_below (range_below hr hbw hb) hw' (Nat.lt_of_lt_of_le hb hbw.size)
      have i1 : (0 : Int) ≤ (j : Int) := by omega
      have i2 : (j : Int) < (l.length : Int) := by omega
      have Hno := Lib.hid hno
      have Hy := Lib.hid hy
      clear hno hy hr h hk0
      by_cases hky : k = y
      · subst hky
        have he := key_eq_is k k true (by simp)
        go_wp2_with fail
        refine wp_region_noPanic ?_
        refine wp_region_held_drew (S := (fun w' => Below wr.heap.size wr w')) (by kernel_rfl) ?_ (fun hHeld => ?_)
        · exact below_self_drew _
        refine takeL 0 rfl (by kernel_rfl) (by kernel_rfl) (by kernel_rfl) (fun _ _ _ h => h) (yieldsIf_load_mid (by rfl) _ _ rfl _ _ rfl (kc k) _ (fun w hSw => hl0 _ hSw) Try.underlying26 rfl (key_info _)) (by assumption) ?_
        (try simp only [Act.put, List.setIfInBounds_toArray, List.set_cons_zero, List.set_cons_succ])
        refine takeL 1 (v := ?_) rfl (by kernel_rfl) (by kernel_rfl) (by kernel_rfl) (fun _ _ _ h => h) (Or.inl ⟨by rfl, ?_⟩) (by assumption) ?_
        rotate_left
        · (intro w hSw; go_simp; try with_reducible rfl)
        (try simp only [Act.put, List.setIfInBounds_toArray, List.set_cons_zero, List.set_cons_succ])
        refine takeL 2 (v := ?_) rfl (by kernel_rfl) (by kernel_rfl) (by kernel_rfl) (fun _ _ _ h => h) (Or.inl ⟨by rfl, ?_⟩) (by assumption) ?_
        rotate_left
        · (intro w hSw; go_simp; try with_reducible rfl)
        (try simp only [Act.put, List.setIfInBounds_toArray, List.set_cons_zero, List.set_cons_succ])
        refine takeL 3 (v := ?_) rfl (by kernel_rfl) (by kernel_rfl) (by kernel_rfl) (fun _ _ _ h => h) (Or.inl ⟨by rfl, ?_⟩) (by assumption) ?_
        rotate_left
        · (intro w hSw; go_simp; try with_reducible rfl)
        (try simp only [Act.put, List.setIfInBounds_toArray, List.set_cons_zero, List.set_cons_succ])
        refine takeL 4 rfl (by kernel_rfl) (by kernel_rfl) (by kernel_rfl) (fun _ _ _ h => h) (yieldsIf_load_mid (by rfl) _ _ rfl _ _ rfl (kc k) _ (fun w hSw => hl1 _ hSw) Try.underlying26 rfl (key_info _)) (by assumption) ?_
        (try simp only [Act.put, List.setIfInBounds_toArray, List.set_cons_zero, List.set_cons_succ])
        refine takeL 5 (v := ?_) rfl (by kernel_rfl) (by kernel_rfl) (by kernel_rfl) (fun _ _ _ h => h) (Or.inl ⟨by rfl, ?_⟩) (by assumption) ?_
        rotate_left
        · (intro w hSw; go_simp; try with_reducible rfl)
        (try simp only [Act.put, List.setIfInBounds_toArray, List.set_cons_zero, List.set_cons_succ])
        refine wpAnyH_done (by kernel_rfl) ?_ _
        refine NoPanic.normal ?_
        go_wp2
        go_ret
        have hB := HB.out
        subst hB
        exact ⟨⟨(j : Int), rfl, ⟨fun _ => List.mem_of_getElem? Hy.out, fun _ => by omega⟩, by omega, by omega⟩, hb0.trans ((hbw.mono hb0.size).trans ((hHeld.mono (by have := hbw.size; omega))))⟩
      · have he := key_eq_is k y false (beq_eq_false_iff_ne.2 hky)
        go_wp2_with fail
        refine wp_region_noPanic ?_
        refine wp_region_held_drew (S := (fun w' => Below wr.heap.size wr w')) (by kernel_rfl) ?_ (fun hHeld => ?_)
        · exact below_self_drew _
        refine takeL 0 rfl (by kernel_rfl) (by kernel_rfl) (by kernel_rfl) (fun _ _ _ h => h) (yieldsIf_load_mid (by rfl) _ _ rfl _ _ rfl (kc k) _ (fun w hSw => hl0 _ hSw) Try.underlying26 rfl (key_info _)) (by assumption) ?_
        (try simp only [Act.put, List.setIfInBounds_toArray, List.set_cons_zero, List.set_cons_succ])
        refine takeL 1 (v := ?_) rfl (by kernel_rfl) (by kernel_rfl) (by kernel_rfl) (fun _ _ _ h => h) (Or.inl ⟨by rfl, ?_⟩) (by assumption) ?_
        rotate_left
        · (intro w hSw; go_simp; try with_reducible rfl)
        (try simp only [Act.put, List.setIfInBounds_toArray, List.set_cons_zero, List.set_cons_succ])
        refine takeL 2 (v := ?_) rfl (by kernel_rfl) (by kernel_rfl) (by kernel_rfl) (fun _ _ _ h => h) (Or.inl ⟨by rfl, ?_⟩) (by assumption) ?_
        rotate_left
        · (intro w hSw; go_simp; try with_reducible rfl)
        (try simp only [Act.put, List.setIfInBounds_toArray, List.set_cons_zero, List.set_cons_succ])
        refine takeL 3 (v := ?_) rfl (by kernel_rfl) (by kernel_rfl) (by kernel_rfl) (fun _ _ _ h => h) (Or.inl ⟨by rfl, ?_⟩) (by assumption) ?_
        rotate_left
        · (intro w hSw; go_simp; try with_reducible rfl)
        (try simp only [Act.put, List.setIfInBounds_toArray, List.set_cons_zero, List.set_cons_succ])
        refine takeL 4 rfl (by kernel_rfl) (by kernel_rfl) (by kernel_rfl) (fun _ _ _ h => h) (yieldsIf_load_mid (by rfl) _ _ rfl _ _ rfl (kc y) _ (fun w hSw => hl1 _ hSw) Try.underlying26 rfl (key_info _)) (by assumption) ?_
        (try simp only [Act.put, List.setIfInBounds_toArray, List.set_cons_zero, List.set_cons_succ])
        refine takeL 5 (v := ?_) rfl (by kernel_rfl) (by kernel_rfl) (by kernel_rfl) (fun _ _ _ h => h) (Or.inl ⟨by rfl, ?_⟩) (by assumption) ?_
        rotate_left
        · (intro w hSw; go_simp; try with_reducible rfl)
        (try simp only [Act.put, List.setIfInBounds_toArray, List.set_cons_zero, List.set_cons_succ])
        refine wpAnyH_done (by kernel_rfl) ?_ _
        refine NoPanic.normal ?_
        go_wp2
        go_roundw
        case rel =>
          refine ⟨j + 1, by omega, by go_num, hbw.trans (hHeld.mono hbw.size), ?_⟩
          have e := Hy.out
          rw [List.getElem?_eq_some_iff] at e
          obtain ⟨_, e⟩ := e
          rw [take_snoc l j hlt2, e]
          simp only [List.mem_append, List.mem_singleton, not_or]
          exact ⟨Hno.out, hky⟩
        case measure => simp [intOf]; omega
    · obtain rfl : j = l.length := by omega
      have Hno := Lib.hid hno
      clear hno h hk0
      go_wp2
      go_ret
      have hB := HB.out
      subst hB
      refine ⟨⟨-1, rfl, ⟨fun h => absurd h (by omega), fun h => absurd h ?_⟩, by omega, by omega⟩, hb0.trans (hbw.mono hb0.size)⟩
      have := Hno.out
      rwa [List.take_length] at this
end Go.Proofs.Ytkllljgnpcmojaa
