/- strings.IndexRune over the sixteen digits, at a rune that is no ASCII: -1. -/
import Derived.Test.YtkllljgnpcmojaaShelf
import Derived.Test.YtkllljgnpcmojaaPlain
import Derived.Test.YtkllljgnpcmojaaWords
import Derived.WalkKit
import Derived.BigCall
import Derived.BigQuiet
import Derived.Deep.QuietTactic
import Derived.WalkSpells
import Derived.WalkLawsBesides
import Derived.Outline
import Derived.Lib.Hide
import Derived.Handy
import Derived.WalkMore
import Derived.Lib.OthersKept
namespace Go.Proofs.Ytkllljgnpcmojaa
open Go Go.RowKit

set_option maxHeartbeats 400000 in
set_option maxRecDepth 100000 in
theorem rune_invalid (r : Int) (w : World) (h0 : r < 0 ∨ 128 ≤ r) (h1 : r ≠ 65533) (h2 : Lib.validRune r = false) :
    Calls Try.prog 40 #[.string digs, .int .i32 r] w fun e w' => e = .returned (.int .i64 (-1)) ∧ w = w' := by
  have t1 : (r == 65533) = false := by simpa using h1
  have H2 := Lib.hid h2
  clear h1 h2
  rcases h0 with h0 | h0
  all_goals
    go_enter Try.func40, Try.ntmps40
    go_wp2_with (go_at_call 44; refine (Try.utf8_ValidRune _ _).mono ?_; rintro e w' ⟨rfl, rfl⟩; rw [H2.out])
    go_ret
    exact ⟨rfl, rfl⟩

-- U+FFFD: the text is gone through to its end.
set_option maxHeartbeats 400000 in
set_option maxRecDepth 100000 in
theorem rune_error (w : World) :
    Calls Try.prog 40 #[.string digs, .int .i32 65533] w fun e w' => e = .returned (.int .i64 (-1)) ∧ Below w.heap.size w w' := by
  go_enter Try.func40, Try.ntmps40
  go_wp2
  go_loopw [] (fun wr => ∃ pos : Nat, pos ≤ 16 ∧ wr.heap[w.heap.size]? = some (.stringIter digs pos) ∧ Below w.heap.size w wr) (fun wr => 16 - wr.iterPos w.heap.size)
  case atStart =>
    refine ⟨0, by omega, ?_, (Below.refl _ w).alloc (Nat.le_refl _) _⟩
    exact World.iter_heap w digs 0
  case round =>
    obtain ⟨pos, hpos, hit, hbw⟩ := hrel
    have hsz : w.heap.size < wr.heap.size := (Array.getElem?_eq_some_iff.1 hit).1
    by_cases hp : pos < digs.size
    · have hp16 : pos < 16 := hp
      have ha : (digs[pos]'hp).toNat < 128 := by
        have hall : ∀ b ∈ digs.data.toList, b.toNat < 128 := by decide
        exact hall _ (Array.mem_toList_iff.2 (Array.getElem_mem hp))
      have hnx : ∀ ty, (Instr.next (.pointer (some ⟨w.heap.size, 0, none⟩)) true ty).run Try.prog wr = _ := fun ty => Lib.run_next_ascii_at wr w.heap.size digs pos ty hit hp ha
      have hbw2 := Lib.below_iterAt hbw (k := w.heap.size) (by omega) digs (pos + 1)
      have hit2 := Lib.iterAt_heap wr w.heap.size digs pos (pos + 1) hit
      have hne : (((digs[pos]'hp).toNat : Int) == 65533) = false := by simp; omega
      go_wp2
      go_roundw
      case rel => exact ⟨pos + 1, by omega, hit2, hbw2⟩
      case measure => simp only [World.iterPos, hit2, hit]; omega
    · have hnx : ∀ ty, (Instr.next (.pointer (some ⟨w.heap.size, 0, none⟩)) true ty).run Try.prog wr = _ := fun ty => Lib.run_next_end_at wr w.heap.size digs pos ty hit hp
      go_wp2
      go_ret
      exact ⟨rfl, hbw⟩

set_option maxHeartbeats 400000 in
set_option maxRecDepth 100000 in
theorem rune_high2 (r : Int) (w : World) (h0 : 128 ≤ r) (t1 : (r == 65533) = false) (H2 : Hid (Lib.validRune r = true)) (x c : UInt8) (hx : Utf8.encode r = ⟨#[x, c]⟩) (hc : 128 ≤ c.toNat) :
    Calls Try.prog 40 #[.string digs, .int .i32 r] w fun e w' => e = .returned (.int .i64 (-1)) ∧ Below w.heap.size w w' := by
  have e1 : ((⟨#[48, 49, 50, 51, 52, 53, 54, 55, 56, 57, 97, 98, 99, 100, 101, 102]⟩ : ByteArray)[1]'(by decide)).toNat = 49 := rfl
  have e2 : ((⟨#[x, c]⟩ : ByteArray)[1]'(by simp [ByteArray.size])).toNat = c.toNat := rfl
  have hne : (((49 : Nat) : Int) != (c.toNat : Int)) = true := by simp; omega
  have hne2 : ((49 : Int) != (c.toNat : Int)) = true := by simp; omega
  have hix : Lib.indexByte [50, 51, 52, 53, 54, 55, 56, 57, 97, 98, 99, 100, 101, 102] c < 0 := by have h := index_high 1 (by omega) c hc; simp [digs] at h; omega
  unfold digs
  go_enter Try.func40, Try.ntmps40
  go_wp2_with (go_at_call 44; refine (Try.utf8_ValidRune _ _).mono ?_; rintro e w' ⟨rfl, rfl⟩; rw [H2.out])
  go_step3
  go_wp2
  refine wp_loop_rounds 1 ?_
  rw [rounds_succ]
  go_wp2
  go_step3
  go_wp2
  go_quiet (fail)
  have hb0 := below_drawn w'.heap.size w' nq
  generalize w'.drewN nq = w2 at hb0 ⊢
  go_wp2
  go_quiet ((go_at_call 43; exact Calls.quiet_of_same (Try.strings_IndexByte _ _ _)))
  have hb1 := hb0.trans ((below_drawn w2.heap.size w2 nq).mono hb0.size)
  generalize w2.drewN nq = w3 at hb1 ⊢
  go_wp2
  rw [Exit.noGoto_ret]
  go_wp2
  rw [Exit.noGoto_ret]
  go_ret
  exact ⟨rfl, hb1⟩
set_option maxHeartbeats 400000 in
set_option maxRecDepth 100000 in
theorem rune_high3 (r : Int) (w : World) (h0 : 128 ≤ r) (t1 : (r == 65533) = false) (H2 : Hid (Lib.validRune r = true)) (x y c : UInt8) (hx : Utf8.encode r = ⟨#[x, y, c]⟩) (hc : 128 ≤ c.toNat) :
    Calls Try.prog 40 #[.string digs, .int .i32 r] w fun e w' => e = .returned (.int .i64 (-1)) ∧ Below w.heap.size w w' := by
  have e1 : ((⟨#[48, 49, 50, 51, 52, 53, 54, 55, 56, 57, 97, 98, 99, 100, 101, 102]⟩ : ByteArray)[2]'(by decide)).toNat = 50 := rfl
  have e2 : ((⟨#[x, y, c]⟩ : ByteArray)[2]'(by simp [ByteArray.size])).toNat = c.toNat := rfl
  have hne : (((50 : Nat) : Int) != (c.toNat : Int)) = true := by simp; omega
  have hne2 : ((50 : Int) != (c.toNat : Int)) = true := by simp; omega
  have hix : Lib.indexByte [51, 52, 53, 54, 55, 56, 57, 97, 98, 99, 100, 101, 102] c < 0 := by have h := index_high 2 (by omega) c hc; simp [digs] at h; omega
  unfold digs
  go_enter Try.func40, Try.ntmps40
  go_wp2_with (go_at_call 44; refine (Try.utf8_ValidRune _ _).mono ?_; rintro e w' ⟨rfl, rfl⟩; rw [H2.out])
  go_step3
  go_wp2
  refine wp_loop_rounds 1 ?_
  rw [rounds_succ]
  go_wp2
  go_step3
  go_wp2
  go_quiet (fail)
  have hb0 := below_drawn w'.heap.size w' nq
  generalize w'.drewN nq = w2 at hb0 ⊢
  go_wp2
  go_quiet ((go_at_call 43; exact Calls.quiet_of_same (Try.strings_IndexByte _ _ _)))
  have hb1 := hb0.trans ((below_drawn w2.heap.size w2 nq).mono hb0.size)
  generalize w2.drewN nq = w3 at hb1 ⊢
  go_wp2
  rw [Exit.noGoto_ret]
  go_wp2
  rw [Exit.noGoto_ret]
  go_ret
  exact ⟨rfl, hb1⟩
set_option maxHeartbeats 400000 in
set_option maxRecDepth 100000 in
theorem rune_high4 (r : Int) (w : World) (h0 : 128 ≤ r) (t1 : (r == 65533) = false) (H2 : Hid (Lib.validRune r = true)) (x y z c : UInt8) (hx : Utf8.encode r = ⟨#[x, y, z, c]⟩) (hc : 128 ≤ c.toNat) :
    Calls Try.prog 40 #[.string digs, .int .i32 r] w fun e w' => e = .returned (.int .i64 (-1)) ∧ Below w.heap.size w w' := by
  have e1 : ((⟨#[48, 49, 50, 51, 52, 53, 54, 55, 56, 57, 97, 98, 99, 100, 101, 102]⟩ : ByteArray)[3]'(by decide)).toNat = 51 := rfl
  have e2 : ((⟨#[x, y, z, c]⟩ : ByteArray)[3]'(by simp [ByteArray.size])).toNat = c.toNat := rfl
  have hne : (((51 : Nat) : Int) != (c.toNat : Int)) = true := by simp; omega
  have hne2 : ((51 : Int) != (c.toNat : Int)) = true := by simp; omega
  have hix : Lib.indexByte [52, 53, 54, 55, 56, 57, 97, 98, 99, 100, 101, 102] c < 0 := by have h := index_high 3 (by omega) c hc; simp [digs] at h; omega
  unfold digs
  go_enter Try.func40, Try.ntmps40
  go_wp2_with (go_at_call 44; refine (Try.utf8_ValidRune _ _).mono ?_; rintro e w' ⟨rfl, rfl⟩; rw [H2.out])
  go_step3
  go_wp2
  refine wp_loop_rounds 1 ?_
  rw [rounds_succ]
  go_wp2
  go_step3
  go_wp2
  go_quiet (fail)
  have hb0 := below_drawn w'.heap.size w' nq
  generalize w'.drewN nq = w2 at hb0 ⊢
  go_wp2
  go_quiet ((go_at_call 43; exact Calls.quiet_of_same (Try.strings_IndexByte _ _ _)))
  have hb1 := hb0.trans ((below_drawn w2.heap.size w2 nq).mono hb0.size)
  generalize w2.drewN nq = w3 at hb1 ⊢
  go_wp2
  rw [Exit.noGoto_ret]
  go_wp2
  rw [Exit.noGoto_ret]
  go_ret
  exact ⟨rfl, hb1⟩

theorem rune_any (r : Int) (w : World) (h0 : r < 0 ∨ 128 ≤ r) :
    Calls Try.prog 40 #[.string digs, .int .i32 r] w fun e w' => e = .returned (.int .i64 (-1)) ∧ Below w.heap.size w w' := by
  by_cases h1 : r = 65533
  · subst h1; exact rune_error w
  · cases h2 : Lib.validRune r with
    | false => exact (rune_invalid r w h0 h1 h2).mono fun e w' ⟨he, hw⟩ => ⟨he, by subst hw; exact Below.refl _ _⟩
    | true =>
      have h128 : 128 ≤ r := by simp [Lib.validRune] at h2; omega
      have t1 : (r == 65533) = false := by simpa using h1
      have hv : Utf8.valid r = true := by simp [Lib.validRune] at h2; simp [Utf8.valid]; omega
      obtain ⟨c, hc, ⟨x, hx⟩ | ⟨x, y, hx⟩ | ⟨x, y, z, hx⟩⟩ := encode_shape r h128 hv
      · exact rune_high2 r w h128 t1 (Lib.hid h2) x c hx hc
      · exact rune_high3 r w h128 t1 (Lib.hid h2) x y c hx hc
      · exact rune_high4 r w h128 t1 (Lib.hid h2) x y z c hx hc
end Go.Proofs.Ytkllljgnpcmojaa
