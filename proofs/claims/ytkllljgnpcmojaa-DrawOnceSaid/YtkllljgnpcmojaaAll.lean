/- Two lists of keys, two sources: alike or not. -/
import Derived.Test.YtkllljgnpcmojaaSrc
namespace Go.Proofs.Ytkllljgnpcmojaa
open Go Go.RowKit

set_option linter.unusedSimpArgs false in
set_option maxHeartbeats 1000000 in
theorem all_any (a1 a2 : Option Addr) (n1 c1 n2 c2 : Nat) (l1 l2 : List Key) (w : World) (h1 : Ks w (.slice a1 n1 c1) l1) (h2 : Ks w (.slice a2 n2 c2) l2) :
    Calls Try.prog 16 #[.slice a1 n1 c1, .slice a2 n2 c2] w fun e w' => e = .returned (.bool (decide (l1 = l2))) ∧ Below w.heap.size w w' := by
  obtain ⟨rfl, p1, p2, p3⟩ := h1.len
  obtain ⟨rfl, q1, q2, q3⟩ := h2.len
  obtain ⟨r, hr⟩ : ∃ r, decide (l1 = l2) = r := ⟨_, rfl⟩
  rw [hr]
  have HR := Lib.hid hr
  clear hr
  go_enter Try.func16, Try.ntmps16
  by_cases hl : l1.length = l2.length
  · have g : ((l1.length : Int) != (l2.length : Int)) = false := by simp; omega
    go_wp2_with fail
    go_loopw [5] (fun i wr => ∃ j : Nat, j ≤ l1.length ∧ i = .int .i64 j ∧ Below w.heap.size w wr ∧ l1.take j = l2.take j) (fun i _ => l1.length - (intOf i).toNat)
    case atStart => exact ⟨0, by omega, rfl, Below.refl _ _, by simp⟩
    case round =>
      obtain ⟨j, hj, rfl, hbw, heq⟩ := hrel
      have Heq := Lib.hid heq
      clear heq
      by_cases hlt : j < l1.length
      · obtain ⟨x, hx⟩ : ∃ x, l1[j]? = some x := ⟨_, List.getElem?_eq_getElem hlt⟩
        obtain ⟨y, hy⟩ : ∃ y, l2[j]? = some y := ⟨_, List.getElem?_eq_getElem (by omega)⟩
        obtain ⟨b1, o1, rfl, hb1, hx1⟩ := h1.at j x hx
        obtain ⟨b2, o2, rfl, hb2, hy1⟩ := h2.at j y hy
        have Hx := Lib.hid hx
        have Hy := Lib.hid hy
        have hr1 : ∀ w', Below wr.heap.size wr w' → w'.rangeAt b1 (o1 + j * 32) (kc x) := fun w' hw => range_below hx1 (below_next hw hbw) hb1
        have hr2 : ∀ w', Below wr.heap.size wr w' → w'.rangeAt b2 (o2 + j * 32) (kc y) := fun w' hw => range_below hy1 (below_next hw hbw) hb2
        have i1 : (0 : Int) ≤ (j : Int) := by omega
        have i2 : (j : Int) < (l1.length : Int) := by omega
        have i3 : (j : Int) < (l2.length : Int) := by omega
        have e1 : l1[j] = x := by have := hx; rw [List.getElem?_eq_getElem hlt] at this; exact Option.some.inj this
        have hlt2 : j < l2.length := by omega
        have e2 : l2[j]'hlt2 = y := by have := hy; rw [List.getElem?_eq_getElem hlt2] at this; exact Option.some.inj this
        have E1 := Lib.hid e1
        have E2 := Lib.hid e2
        clear hx hy hx1 hy1 h1 h2 e1 e2 hl
        by_cases hxy : x = y
        · have he := key_ne_is x y false (by simp [hxy])
          have Hxy := Lib.hid hxy
          clear hxy
          go_wp2_with fail
          refine wp_region_noPanic ?_
          refine wp_region_held_drew (S := (fun w' => Below wr.heap.size wr w')) (by kernel_rfl) ?_ (fun hHeld => ?_)
          · exact below_self_drew _
          refine takeL 0 (v := ?_) rfl (by kernel_rfl) (by kernel_rfl) (by kernel_rfl) (fun _ _ _ h => h) (Or.inl ⟨by rfl, ?_⟩) (by assumption) ?_
          rotate_left
          · (intro w hSw; go_simp; try with_reducible rfl)
          (try simp only [Act.put, List.setIfInBounds_toArray, List.set_cons_zero, List.set_cons_succ])
          refine takeL 1 (v := ?_) rfl (by kernel_rfl) (by kernel_rfl) (by kernel_rfl) (fun _ _ _ h => h) (Or.inl ⟨by rfl, ?_⟩) (by assumption) ?_
          rotate_left
          · (intro w hSw; go_simp; try with_reducible rfl)
          (try simp only [Act.put, List.setIfInBounds_toArray, List.set_cons_zero, List.set_cons_succ])
          refine takeL 2 (v := ?_) rfl (by kernel_rfl) (by kernel_rfl) (by kernel_rfl) (fun _ _ _ h => h) (Or.inl ⟨by rfl, ?_⟩) (by assumption) ?_
          rotate_left
          · (intro w hSw; go_simp; try with_reducible rfl)
          (try simp only [Act.put, List.setIfInBounds_toArray, List.set_cons_zero, List.set_cons_succ])
          refine takeL 3 (v := _) rfl (by kernel_rfl) (by kernel_rfl) (by kernel_rfl) (fun _ _ _ h => h) (yieldsIf_load_mid (by rfl) _ _ rfl _ _ rfl (kc x) _ (fun w hSw => hr1 _ hSw) Try.underlying26 rfl (key_info _)) (by assumption) ?_
          (try simp only [Act.put, List.setIfInBounds_toArray, List.set_cons_zero, List.set_cons_succ])
          refine takeL 4 (v := ?_) rfl (by kernel_rfl) (by kernel_rfl) (by kernel_rfl) (fun _ _ _ h => h) (Or.inl ⟨by rfl, ?_⟩) (by assumption) ?_
          rotate_left
          · (intro w hSw; go_simp; try with_reducible rfl)
          (try simp only [Act.put, List.setIfInBounds_toArray, List.set_cons_zero, List.set_cons_succ])
          refine takeL 5 (v := ?_) rfl (by kernel_rfl) (by kernel_rfl) (by kernel_rfl) (fun _ _ _ h => h) (Or.inl ⟨by rfl, ?_⟩) (by assumption) ?_
          rotate_left
          · (intro w hSw; go_simp; try with_reducible rfl)
          (try simp only [Act.put, List.setIfInBounds_toArray, List.set_cons_zero, List.set_cons_succ])
          refine takeL 6 (v := ?_) rfl (by kernel_rfl) (by kernel_rfl) (by kernel_rfl) (fun _ _ _ h => h) (Or.inl ⟨by rfl, ?_⟩) (by assumption) ?_
          rotate_left
          · (intro w hSw; go_simp; try with_reducible rfl)
          (try simp only [Act.put, List.setIfInBounds_toArray, List.set_cons_zero, List.set_cons_succ])
          refine takeL 7 (v := _) rfl (by kernel_rfl) (by kernel_rfl) (by kernel_rfl) (fun _ _ _ h => h) (yieldsIf_load_mid (by rfl) _ _ rfl _ _ rfl (kc y) _ (fun w hSw => hr2 _ hSw) Try.underlying26 rfl (key_info _)) (by assumption) ?_
          (try simp only [Act.put, List.setIfInBounds_toArray, List.set_cons_zero, List.set_cons_succ])
          refine takeL 8 (v := ?_) rfl (by kernel_rfl) (by kernel_rfl) (by kernel_rfl) (fun _ _ _ h => h) (Or.inl ⟨by rfl, ?_⟩) (by assumption) ?_
          rotate_left
          · (intro w hSw; go_simp; try with_reducible rfl)
          (try simp only [Act.put, List.setIfInBounds_toArray, List.set_cons_zero, List.set_cons_succ])
          refine wpAnyH_done (by kernel_rfl) ?_ _
          refine NoPanic.normal ?_
          go_wp2
          go_roundw
          case rel =>
            refine ⟨j + 1, by omega, by go_num, below_next hHeld hbw, ?_⟩
            rw [take_snoc l1 j hlt, take_snoc l2 j hlt2, E1.out, E2.out, Heq.out, Hxy.out]
          case measure => simp [intOf]; omega
        · have he := key_ne_is x y true (bne_iff_ne.2 hxy)
          have HF : Hid (decide (l1 = l2) = false) := by
            show _ = _
            rw [decide_eq_false_iff_not]
            intro h
            subst h
            exact hxy (E1.out.symm.trans E2.out)
          clear hxy
          go_wp2_with fail
          refine wp_region_noPanic ?_
          refine wp_region_held_drew (S := (fun w' => Below wr.heap.size wr w')) (by kernel_rfl) ?_ (fun hHeld => ?_)
          · exact below_self_drew _
          refine takeL 0 (v := ?_) rfl (by kernel_rfl) (by kernel_rfl) (by kernel_rfl) (fun _ _ _ h => h) (Or.inl ⟨by rfl, ?_⟩) (by assumption) ?_
          rotate_left
          · (intro w hSw; go_simp; try with_reducible rfl)
          (try simp only [Act.put, List.setIfInBounds_toArray, List.set_cons_zero, List.set_cons_succ])
          refine takeL 1 (v := ?_) rfl (by kernel_rfl) (by kernel_rfl) (by kernel_rfl) (fun _ _ _ h => h) (Or.inl ⟨by rfl, ?_⟩) (by assumption) ?_
          rotate_left
          · (intro w hSw; go_simp; try with_reducible rfl)
          (try simp only [Act.put, List.setIfInBounds_toArray, List.set_cons_zero, List.set_cons_succ])
          refine takeL 2 (v := ?_) rfl (by kernel_rfl) (by kernel_rfl) (by kernel_rfl) (fun _ _ _ h => h) (Or.inl ⟨by rfl, ?_⟩) (by assumption) ?_
          rotate_left
          · (intro w hSw; go_simp; try with_reducible rfl)
          (try simp only [Act.put, List.setIfInBounds_toArray, List.set_cons_zero, List.set_cons_succ])
          refine takeL 3 (v := _) rfl (by kernel_rfl) (by kernel_rfl) (by kernel_rfl) (fun _ _ _ h => h) (yieldsIf_load_mid (by rfl) _ _ rfl _ _ rfl (kc x) _ (fun w hSw => hr1 _ hSw) Try.underlying26 rfl (key_info _)) (by assumption) ?_
          (try simp only [Act.put, List.setIfInBounds_toArray, List.set_cons_zero, List.set_cons_succ])
          refine takeL 4 (v := ?_) rfl (by kernel_rfl) (by kernel_rfl) (by kernel_rfl) (fun _ _ _ h => h) (Or.inl ⟨by rfl, ?_⟩) (by assumption) ?_
          rotate_left
          · (intro w hSw; go_simp; try with_reducible rfl)
          (try simp only [Act.put, List.setIfInBounds_toArray, List.set_cons_zero, List.set_cons_succ])
          refine takeL 5 (v := ?_) rfl (by kernel_rfl) (by kernel_rfl) (by kernel_rfl) (fun _ _ _ h => h) (Or.inl ⟨by rfl, ?_⟩) (by assumption) ?_
          rotate_left
          · (intro w hSw; go_simp; try with_reducible rfl)
          (try simp only [Act.put, List.setIfInBounds_toArray, List.set_cons_zero, List.set_cons_succ])
          refine takeL 6 (v := ?_) rfl (by kernel_rfl) (by kernel_rfl) (by kernel_rfl) (fun _ _ _ h => h) (Or.inl ⟨by rfl, ?_⟩) (by assumption) ?_
          rotate_left
          · (intro w hSw; go_simp; try with_reducible rfl)
          (try simp only [Act.put, List.setIfInBounds_toArray, List.set_cons_zero, List.set_cons_succ])
          refine takeL 7 (v := _) rfl (by kernel_rfl) (by kernel_rfl) (by kernel_rfl) (fun _ _ _ h => h) (yieldsIf_load_mid (by rfl) _ _ rfl _ _ rfl (kc y) _ (fun w hSw => hr2 _ hSw) Try.underlying26 rfl (key_info _)) (by assumption) ?_
          (try simp only [Act.put, List.setIfInBounds_toArray, List.set_cons_zero, List.set_cons_succ])
          refine takeL 8 (v := ?_) rfl (by kernel_rfl) (by kernel_rfl) (by kernel_rfl) (fun _ _ _ h => h) (Or.inl ⟨by rfl, ?_⟩) (by assumption) ?_
          rotate_left
          · (intro w hSw; go_simp; try with_reducible rfl)
          (try simp only [Act.put, List.setIfInBounds_toArray, List.set_cons_zero, List.set_cons_succ])
          refine wpAnyH_done (by kernel_rfl) ?_ _
          refine NoPanic.normal ?_
          go_wp2
          go_ret
          rw [← HR.out, HF.out]
          exact ⟨rfl, below_next hHeld hbw⟩
      · obtain rfl : j = l1.length := by omega
        have HT : Hid (decide (l1 = l2) = true) := by
          show _ = _
          rw [decide_eq_true_iff]
          have := Heq.out
          rwa [List.take_length, hl, List.take_length] at this
        clear h1 h2
        go_wp2
        go_ret
        rw [← HR.out, HT.out]
        exact ⟨rfl, hbw⟩
  · have g : ((l1.length : Int) != (l2.length : Int)) = true := by simp; omega
    have HF : Hid (decide (l1 = l2) = false) := by
      show _ = _
      rw [decide_eq_false_iff_not]
      intro h
      subst h
      exact hl rfl
    clear h1 h2
    go_wp2
    go_ret
    rw [← HR.out, HF.out]
    exact ⟨rfl, Below.refl _ _⟩
theorem all_is (a1 a2 : Option Addr) (n1 c1 n2 c2 : Nat) (l1 l2 : List Key) (c : Bool) (hc : decide (l1 = l2) = c) (w : World) (h1 : Ks w (.slice a1 n1 c1) l1) (h2 : Ks w (.slice a2 n2 c2) l2) :
    Calls Try.prog 16 #[.slice a1 n1 c1, .slice a2 n2 c2] w fun e w' => e = .returned (.bool c) ∧ Below w.heap.size w w' := by subst hc; exact all_any a1 a2 n1 c1 n2 c2 l1 l2 w h1 h2

theorem same_any (a1 a2 : Option Addr) (n1 c1 n2 c2 : Nat) (u : Int) (l : List Key) (w : World) (h1 : Ks w (.slice a1 n1 c1) l) (h2 : Ks w (.slice a2 n2 c2) l) :
    Calls Try.prog 13 #[.agg #[.slice a1 n1 c1, .int .i64 u], .agg #[.slice a2 n2 c2, .int .i64 u]] w fun e w' => e = .returned (.bool true) ∧ Below w.heap.size w w' := by
  go_enter Try.func13, Try.ntmps13
  have hb0 : Below w.heap.size w (w.alloc (.cells #[.slice a1 n1 c1, .int .i64 u] 24)) := (Below.refl _ w).alloc (Nat.le_refl _) _
  have hb1 : Below w.heap.size w ((w.alloc (.cells #[.slice a1 n1 c1, .int .i64 u] 24)).alloc (.cells #[.slice a2 n2 c2, .int .i64 u] 24)) := hb0.alloc (by simp) _
  have k1 := h1.below hb1
  have k2 := h2.below hb1
  clear h1 h2
  go_wp2_with fail
  refine (all_is _ _ _ _ _ _ l l true (by simp) _ k1 k2).mono ?_
  rintro e w3 ⟨rfl, hb3⟩
  have hs := hb3.size
  have f1 : w3.cell? ⟨w.heap.size, 1, none⟩ = some (.int .i64 u) := by
    rw [hb3.cell (p := ⟨w.heap.size, 1, none⟩) (by simp; omega), World.cell?_alloc_old _ _ _ (by simp), World.cell?_alloc_at _ _ _ _ rfl]
    rfl
  have f2 : w3.cell? ⟨w.heap.size + 1, 1, none⟩ = some (.int .i64 u) := by
    rw [hb3.cell (p := ⟨w.heap.size + 1, 1, none⟩) (by simp), World.cell?_alloc_at _ _ _ _ (by simp)]
    rfl
  have hB3 : Below w.heap.size w w3 := hb1.trans (hb3.mono (by simp; omega))
  have g : (u == u) = true := by simp
  clear k1 k2 hb3
  go_wp2
  go_ret
  exact ⟨rfl, hB3⟩
end Go.Proofs.Ytkllljgnpcmojaa
