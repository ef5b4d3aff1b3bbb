/- The walk of the law HexBack. -/
import Derived.Test.YthfjlihfgmmomaaLSizes
import Derived.Test.YthfjlihfgmmomaaRegion
namespace Go.Proofs.Ythfjlihfgmmomaa
open Go Go.RowKit
set_option linter.unusedSimpArgs false

theorem own_two {w : World} {B : Nat} {e : TypeId} {v : Value} {l m : List UInt8} (h : w.ownsRow B e 1 v (0 + l.length + m.length) ([] ++ l.map bv ++ m.map bv)) (hl : l.length + m.length ≤ 140737488355328) : Bs w v (l ++ m) :=
  own_bs (by simpa using h) (by simpa using hl)
theorem sep_at : ∀ j : Fin 3, ∃ c : UInt8, skp c.toNat = true ∧ (ByteArray.mk #[32, 95, 10]).extract j.val (j.val + 1) = ⟨[c].toArray⟩ := by
  intro j
  match j with
  | 0 => exact ⟨32, by decide, rfl⟩
  | 1 => exact ⟨95, by decide, rfl⟩
  | 2 => exact ⟨10, by decide, rfl⟩

set_option maxHeartbeats 1000000 in
set_option maxRecDepth 100000 in
theorem hexBack_walk (a0 : Option Addr) (len0 cap0 : Nat) (z0 : List Int) (a1 : Option Addr) (len1 cap1 : Nat) (z1 : List Int) (gap : Int) (w : World) (w0 : IsRow .u8 w a0 len0 cap0 z0) (w1 : IsRow .u8 w a1 len1 cap1 z1) (w2 : (Lit.int .u8 gap).wf = true) :
    Calls Try.prog 4 #[.slice a0 len0 cap0, .slice a1 len1 cap1, .int .u8 gap] w fun e w' => e = .returned (.bool true) ∧ Below w.heap.size w w' := by
  by_cases h1 : len0 ≤ 300 ∧ len1 ≤ 300
  · obtain ⟨h1, h2⟩ := h1
    obtain ⟨l, rfl, hbs⟩ := row_bs w0 (by omega)
    obtain ⟨m, rfl, hbm⟩ := row_bs w1 (by omega)
    obtain ⟨gp0, gp1⟩ := bounds_u8 w2
    clear w0 w1 w2
    obtain ⟨i0, hi, hz0, hz1, hz2⟩ := info_parts info5
    go_enter Try.func4, Try.ntmps4
    go_wp2_with fail
    refine (awake_any _).mono ?_
    rintro e w1 ⟨rfl, hb1⟩
    go_wp2
    go_loopw [8, 9] (fun t i wr => ∃ (k : Nat) (g : List UInt8), k ≤ 7 ∧ i = .int .i64 k ∧ t = .string ⟨g.toArray⟩ ∧ g.length = k ∧ (∀ x ∈ g, skp x.toNat = true) ∧ Below w.heap.size w wr) (fun _ i _ => 7 - (intOf i).toNat)
    case atStart => exact ⟨0, [], by omega, rfl, rfl, rfl, by simp, hb1⟩
    case round =>
      obtain ⟨k, g, hk, rfl, rfl, hgl, hgs, hbw⟩ := hrel
      have HG := Lib.hid hgl
      have HGS := Lib.hid hgs
      have hgl' : g.length ≤ 7 := by omega
      clear hgl hgs
      by_cases hlt : (k : Int) < gap % 7
      · obtain ⟨c, hc, he⟩ := sep_at ⟨k % 3, by omega⟩
        have HC := Lib.hid hc
        have HE := Lib.hid he
        clear hc he
        go_wp2
        go_roundw
        case rel =>
          refine ⟨k + 1, g ++ [c], by omega, by go_num, ?_, by have := HG.out; simp; omega, ?_, hbw⟩
          · rw [HE.out, str_app]
          · intro x hx
            rcases List.mem_append.1 hx with h | h
            · exact HGS.out x h
            · simp at h; subst h; exact HC.out
        case measure => simp [intOf]; omega
      · have hlt' : gap % 7 ≤ (k : Int) := by omega
        clear hlt
        go_wp2_with fail
        refine (text_any _ l _ (hbs.below hbw) (by omega)).mono ?_
        rintro e w3 ⟨rfl, hb3⟩
        have hB3 := below_next hb3 hbw
        have hl1 : (hexOf l).length ≤ 600 := by rw [length_hexOf]; omega
        have hl2 : (hexOf m).length ≤ 600 := by rw [length_hexOf]; omega
        have HL1 := Lib.hid (scan_between l m g HGS.out)
        go_wp2_with fail
        refine (text_any _ m _ (hbm.below hB3) (by omega)).mono ?_
        rintro e w4 ⟨rfl, hb4⟩
        have hB4 := below_next hb4 hB3
        go_wp2_with fail
        rw [str_app, str_app, str_app]
        refine (bytes_any _ _ (by simp [ByteArray.size]; omega)).mono ?_
        rintro e w5 ⟨hr, hb5⟩
        rw [show (ByteArray.mk (((hexOf l ++ g) ++ hexOf m) ++ g).toArray).data.toList = ((hexOf l ++ g) ++ hexOf m) ++ g from rfl, HL1.out] at hr
        rcases hr with ⟨out, v5, ho, rfl, hown⟩ | ⟨h, _⟩
        rotate_left
        · cases h
        obtain rfl := Option.some.inj ho
        clear ho
        have hB5 := below_next hb5 hB4
        have hs5 : Bs w5 v5 (l ++ m) := own_bs hown (by simp; omega)
        have hcv : ∀ w' : World, Below w5.heap.size w5 w' → (convert 22 9 v5).run Try.prog w' = .ok (.string ⟨(l ++ m).toArray⟩) w' := fun w' h => bs_string (hs5.below h)
        have hcvA : ∀ (w' : World) (o : Obj), Below w5.heap.size w5 w' → (convert 22 9 v5).run Try.prog (w'.alloc o) = .ok (.string ⟨(l ++ m).toArray⟩) (w'.alloc o) := fun w' o h => bs_string (hs5.below (h.alloc h.size o))
        have hA5 := hbs.below hB5
        have hM5 := hbm.below hB5
        have hlm : l.length + m.length ≤ 140737488355328 := by omega
        have h20 : Below w5.heap.size w5 w5.drew := (Below.refl _ _).drew
        have hln : ((hexOf l).length : Int) = 2 * (l.length : Int) := by rw [length_hexOf]; omega
        have hln2 : (((hexOf l).length : Int) == 2 * (l.length : Int)) = true := by simp; omega
        have HLN := Lib.hid hln
        have hwr : IntKind.i64.wrap (2 * (l.length : Int)) = 2 * (l.length : Int) := IntWalk.i64_in _ (by omega)
        clear hown hln HL1 hgl' HG HGS hbs hbm hl1 hl2
        go_wp2
        refine wp_region_noPanic ?_
        refine wp_region_held_drew (S := fun w' => Below w5.heap.size w5 w') (by kernel_rfl) ?_ (fun hHeld => ?_)
        · exact h20
        refine takeL 0 (v := ?_) rfl (by kernel_rfl) (by kernel_rfl) (by kernel_rfl) (fun _ _ _ h => h) (Or.inl ⟨by rfl, ?_⟩) (by assumption) ?_
        rotate_left
        · (intro w hSw; go_simp; try with_reducible rfl)
        (try simp only [Act.put, List.setIfInBounds_toArray, List.set_cons_zero, List.set_cons_succ])
        refine takeL 1 (v := ?_) rfl (by kernel_rfl) (by kernel_rfl) (by kernel_rfl) (fun _ _ _ h => h) (Or.inl ⟨by rfl, ?_⟩) (by assumption) ?_
        rotate_left
        · (intro w hSw; go_simp; try with_reducible rfl)
        (try simp only [Act.put, List.setIfInBounds_toArray, List.set_cons_zero, List.set_cons_succ])
        refine takeL 2 (v := ?_) rfl (by kernel_rfl) (by kernel_rfl) (by kernel_rfl) (fun _ _ _ h => h) (Or.inl ⟨by rfl, ?_⟩) (by assumption) ?_
        rotate_left
        · (intro w hSw; go_simp; try with_reducible rfl)
        (try simp only [Act.put, List.setIfInBounds_toArray, List.set_cons_zero, List.set_cons_succ])
        refine takeL 5 (v := ?_) rfl (by kernel_rfl) (by kernel_rfl) (by kernel_rfl) (fun _ _ _ h => h) (Or.inl ⟨by rfl, ?_⟩) (by assumption) ?_
        rotate_left
        · (intro w hSw; go_simp; try with_reducible rfl)
        (try simp only [Act.put, List.setIfInBounds_toArray, List.set_cons_zero, List.set_cons_succ])
        refine takeL 6 (v := ?_) rfl (by kernel_rfl) (by kernel_rfl) (by kernel_rfl) (fun _ _ _ h => h) (Or.inl ⟨by rfl, ?_⟩) (by assumption) ?_
        rotate_left
        · (intro w hSw; go_simp; try with_reducible rfl)
        (try simp only [Act.put, List.setIfInBounds_toArray, List.set_cons_zero, List.set_cons_succ])
        refine takeL 7 (v := ?_) rfl (by kernel_rfl) (by kernel_rfl) (by kernel_rfl) (fun _ _ _ h => h) (Or.inl ⟨by rfl, ?_⟩) (by assumption) ?_
        rotate_left
        · (intro w hSw; go_simp; try with_reducible rfl)
        (try simp only [Act.put, List.setIfInBounds_toArray, List.set_cons_zero, List.set_cons_succ])
        refine stepL 3 rfl (by kernel_rfl) (fun K hK => ?_)
        (go_simp; go_at_call 15; refine (text_any _ l _ (hA5.below ‹_›) (by omega)).mono ?_; rintro e w6 ⟨rfl, hb6⟩)
        refine hK.out _ _ ?_ (fun hHeld => ?_)
        · exact below_next hb6 ‹_›
        clear hK K
        (try simp only [Act.put, List.setIfInBounds_toArray, List.set_cons_zero, List.set_cons_succ])
        refine takeL 4 (v := ?_) rfl (by kernel_rfl) (by kernel_rfl) (by kernel_rfl) (fun _ _ _ h => h) (Or.inl ⟨by rfl, ?_⟩) (by assumption) ?_
        rotate_left
        · (intro w hSw; go_simp; try with_reducible rfl)
        (try simp only [Act.put, List.setIfInBounds_toArray, List.set_cons_zero, List.set_cons_succ])
        refine takeL 8 (v := ?_) rfl (by kernel_rfl) (by kernel_rfl) (by kernel_rfl) (fun _ _ _ h => h) (Or.inl ⟨by rfl, ?_⟩) (by assumption) ?_
        rotate_left
        · (intro w hSw; go_simp; try with_reducible rfl)
        (try simp only [Act.put, List.setIfInBounds_toArray, List.set_cons_zero, List.set_cons_succ])
        refine takeL 9 (v := ?_) rfl (by kernel_rfl) (by kernel_rfl) (by kernel_rfl) (fun _ _ _ h => h) (Or.inl ⟨by rfl, ?_⟩) (by assumption) ?_
        rotate_left
        · (intro w hSw; go_simp; try with_reducible rfl)
        (try simp only [Act.put, List.setIfInBounds_toArray, List.set_cons_zero, List.set_cons_succ])
        refine takeL 10 (v := ?_) rfl (by kernel_rfl) (by kernel_rfl) (by kernel_rfl) (fun _ _ _ h => h) (Or.inl ⟨by rfl, ?_⟩) (by assumption) ?_
        rotate_left
        · (intro w hSw; go_simp; try with_reducible rfl)
        (try simp only [Act.put, List.setIfInBounds_toArray, List.set_cons_zero, List.set_cons_succ])
        refine takeL 11 (v := ?_) rfl (by kernel_rfl) (by kernel_rfl) (by kernel_rfl) (fun _ _ _ h => h) (Or.inl ⟨by rfl, ?_⟩) (by assumption) ?_
        rotate_left
        · (intro w hSw; go_simp; try with_reducible rfl)
        (try simp only [Act.put, List.setIfInBounds_toArray, List.set_cons_zero, List.set_cons_succ])
        refine takeL 12 (v := ?_) rfl (by kernel_rfl) (by kernel_rfl) (by kernel_rfl) (fun _ _ _ h => h) (Or.inl ⟨by rfl, ?_⟩) (by assumption) ?_
        rotate_left
        · (intro w hSw; go_simp; try with_reducible rfl)
        (try simp only [Act.put, List.setIfInBounds_toArray, List.set_cons_zero, List.set_cons_succ])
        refine takeL 13 (v := ?_) rfl (by kernel_rfl) (by kernel_rfl) (by kernel_rfl) (fun _ _ _ h => h) (Or.inl ⟨by rfl, ?_⟩) (by assumption) ?_
        rotate_left
        · (intro w hSw; go_simp; try with_reducible rfl)
        (try simp only [Act.put, List.setIfInBounds_toArray, List.set_cons_zero, List.set_cons_succ])
        refine takeL 14 (v := ?_) rfl (by kernel_rfl) (by kernel_rfl) (by kernel_rfl) (fun _ _ _ h => h) (Or.inl ⟨by rfl, ?_⟩) (by assumption) ?_
        rotate_left
        · (intro w hSw; go_simp; try with_reducible rfl)
        (try simp only [Act.put, List.setIfInBounds_toArray, List.set_cons_zero, List.set_cons_succ])
        refine takeL 15 (v := ?_) rfl (by kernel_rfl) (by kernel_rfl) (by kernel_rfl) (fun _ _ _ h => h) (Or.inl ⟨by rfl, ?_⟩) (by assumption) ?_
        rotate_left
        · (intro w hSw; go_simp; try with_reducible rfl)
        (try simp only [Act.put, List.setIfInBounds_toArray, List.set_cons_zero, List.set_cons_succ])
        refine takeL 16 (v := ?_) rfl (by kernel_rfl) (by kernel_rfl) (by kernel_rfl) (fun _ _ _ h => h) (Or.inl ⟨by rfl, ?_⟩) (by assumption) ?_
        rotate_left
        · (intro w hSw; go_simp; try with_reducible rfl)
        (try simp only [Act.put, List.setIfInBounds_toArray, List.set_cons_zero, List.set_cons_succ])
        refine takeL 18 (v := ?_) rfl (by kernel_rfl) (by kernel_rfl) (by kernel_rfl) (fun _ _ _ h => h) (Or.inl ⟨by rfl, ?_⟩) (by assumption) ?_
        rotate_left
        · (intro w hSw; go_simp; try with_reducible rfl)
        (try simp only [Act.put, List.setIfInBounds_toArray, List.set_cons_zero, List.set_cons_succ])
        refine takeL 20 (v := ?_) rfl (by kernel_rfl) (by kernel_rfl) (by kernel_rfl) (fun _ _ _ h => h) (Or.inl ⟨by rfl, ?_⟩) (by assumption) ?_
        rotate_left
        · (intro w hSw; go_simp; try with_reducible rfl)
        (try simp only [Act.put, List.setIfInBounds_toArray, List.set_cons_zero, List.set_cons_succ])
        refine stepL 17 rfl (by kernel_rfl) (fun K hK => ?_)
        go_simp
        refine hK.out _ _ ?_ (fun hHeld => ?_)
        · exact Below.alloc ‹_› (Below.size ‹_›) _
        clear hK K
        (try simp only [Act.put, List.setIfInBounds_toArray, List.set_cons_zero, List.set_cons_succ])
        refine stepL 19 rfl (by kernel_rfl) (fun K hK => ?_)
        (refine step_append_held w5 (by rfl) (.tmp 67) (.tmp 68) 22 rfl 5 i0 (.int .u8 0) Try.underlying22 hi hz0 hz1 hz2 rfl _ 0 [] rfl _ l rfl ?_ ?_ hA5 ?_ ?_; (assumption); (exact empty_row hb6.size _); omega; intro v7 w7 hown7 hB7)
        refine hK.out _ _ ?_ (fun hHeld => ?_)
        · exact hB7
        clear hK K
        (try simp only [Act.put, List.setIfInBounds_toArray, List.set_cons_zero, List.set_cons_succ])
        refine stepL 21 rfl (by kernel_rfl) (fun K hK => ?_)
        (refine step_append_held w5 (by rfl) (.tmp 69) (.tmp 70) 22 rfl 5 i0 (.int .u8 0) Try.underlying22 hi hz0 hz1 hz2 rfl _ (0 + l.length) ([] ++ l.map bv) rfl _ m rfl ?_ ?_ hM5 ?_ ?_; (exact hB7); (exact hown7); omega; intro v8 w8 hown8 hB8; have hcv8 := bs_string (own_two hown8 hlm))
        refine hK.out _ _ ?_ (fun hHeld => ?_)
        · exact hB8
        clear hK K
        (try simp only [Act.put, List.setIfInBounds_toArray, List.set_cons_zero, List.set_cons_succ])
        refine stepL 22 rfl (by kernel_rfl) (fun K hK => ?_)
        go_simp
        refine hK.out _ _ ?_ (fun hHeld => ?_)
        · exact hB8
        clear hK K
        (try simp only [Act.put, List.setIfInBounds_toArray, List.set_cons_zero, List.set_cons_succ])
        refine takeL 23 (v := ?_) rfl (by kernel_rfl) (by kernel_rfl) (by kernel_rfl) (fun _ _ _ h => h) (Or.inl ⟨by rfl, ?_⟩) (by assumption) ?_
        rotate_left
        · (intro w hSw; go_simp; try with_reducible rfl)
        (try simp only [Act.put, List.setIfInBounds_toArray, List.set_cons_zero, List.set_cons_succ])
        refine takeL 24 (v := ?_) rfl (by kernel_rfl) (by kernel_rfl) (by kernel_rfl) (fun _ _ _ h => h) (Or.inl ⟨by rfl, ?_⟩) (by assumption) ?_
        rotate_left
        · (intro w hSw; go_simp; try with_reducible rfl)
        (try simp only [Act.put, List.setIfInBounds_toArray, List.set_cons_zero, List.set_cons_succ])
        refine takeL 25 (v := ?_) rfl (by kernel_rfl) (by kernel_rfl) (by kernel_rfl) (fun _ _ _ h => h) (Or.inl ⟨by rfl, ?_⟩) (by assumption) ?_
        rotate_left
        · (intro w hSw; go_simp; try with_reducible rfl)
        (try simp only [Act.put, List.setIfInBounds_toArray, List.set_cons_zero, List.set_cons_succ])
        refine wpAnyH_done (by kernel_rfl) ?_ _
        refine NoPanic.normal ?_
        go_wp2
        go_ret
        exact ⟨rfl, below_next hB8 hB5⟩
  · go_enter Try.func4, Try.ntmps4
    by_cases h2 : len0 ≤ 300
    · have h3 : 300 < len1 := by omega
      clear h1 w0 w1
      go_wp2_with fail
      refine (awake_any _).mono ?_
      rintro e w1 ⟨rfl, hb1⟩
      go_wp2
      go_ret
      exact ⟨rfl, hb1⟩
    · have h3 : 300 < len0 := by omega
      clear h1 h2 w0 w1
      go_wp2_with fail
      refine (awake_any _).mono ?_
      rintro e w1 ⟨rfl, hb1⟩
      go_wp2
      go_ret
      exact ⟨rfl, hb1⟩
end Go.Proofs.Ythfjlihfgmmomaa
