/- Two lists of frames that read the same: quicklimeref16.Same. -/
import Derived.Test.YtdiokmaomglefaaMX
import Derived.Laws.StructEq
namespace Go.Proofs.Ytdiokmaomglefaa
open Go Go.RowKit

set_option maxRecDepth 100000 in
theorem found_neq (y : Fd) (w : World) : (binOp .neq 48 (.agg #[.int .i64 y.hd.kind, .int .i64 y.hd.lba, .int .i64 y.hd.len, .int .i64 y.hd.seq, .int .i64 y.hd.epoch, .int .i64 (y.zone : Int), .int .i64 (y.at_ : Int)]) (.agg #[.int .i64 y.hd.kind, .int .i64 y.hd.lba, .int .i64 y.hd.len, .int .i64 y.hd.seq, .int .i64 y.hd.epoch, .int .i64 (y.zone : Int), .int .i64 (y.at_ : Int)])).run Try.prog w = .ok (.bool false) w := by
  have u3 := Try.underlying3
  have a3 := Try.isAgg3
  have z3 := Try.sizeOf3
  have a5 := Try.isAgg46
  have z5 := Try.sizeOf46
  have hS : Try.prog.underlying 48 = some (.struct (Try.prog.fieldsOf 48)) := by kernel_rfl
  have hp : Try.prog.stoodInHeld 48 = false := by kernel_rfl
  have h46 : ∀ w, (Op.equalIn 9999 46 (.agg #[.int .i64 y.hd.kind, .int .i64 y.hd.lba, .int .i64 y.hd.len, .int .i64 y.hd.seq, .int .i64 y.hd.epoch]) (.agg #[.int .i64 y.hd.kind, .int .i64 y.hd.lba, .int .i64 y.hd.len, .int .i64 y.hd.seq, .int .i64 y.hd.epoch])).run Try.prog w = .ok true w := fun w => by
    rw [show (9999 : Nat) = 9998 + 1 from rfl, run_equalIn_agg w 9998 46 _ _ (by kernel_rfl) (by kernel_rfl)]
    simp only [Program.fieldsOf, Try.underlying46]
    go_simp
  rw [run_neq_struct, show (10000 : Nat) = 9999 + 1 from rfl, run_equalIn_agg w 9999 48 _ _ hS hp]
  clear hS hp
  simp only [Program.fieldsOf, Try.underlying48]
  go_simp
set_option linter.unusedSimpArgs false in
set_option maxRecDepth 100000 in
set_option maxHeartbeats 2000000 in
theorem fsame_refl (a a2 : Option Addr) (c c2 : Nat) (l : List Fd) (w : World) (h : Rw 7 w (.slice a l.length c) l.length (fcells l)) (h2 : Rw 7 w (.slice a2 l.length c2) l.length (fcells l)) :
    Calls Try.prog 18 #[.slice a l.length c, .slice a2 l.length c2] w fun e w' => e = .returned (.bool true) ∧ Below w.heap.size w w' := by
  have hbig := h.len.2.2
  unfold maxLen at hbig
  have n1 : ((l.length : Int) != (l.length : Int)) = false := by simp
  have HA := Lib.hid h
  have HC := Lib.hid h2
  clear h h2
  go_enter Try.func18, Try.ntmps18
  go_wp2
  go_loopw [5] (fun i wr => ∃ j : Nat, j ≤ l.length ∧ i = .int .i64 j ∧ Below w.heap.size w wr) (fun i _ => l.length - (intOf i).toNat)
  case atStart => exact ⟨0, by omega, rfl, Below.refl _ _⟩
  case round =>
    obtain ⟨j, hj, rfl, hbr⟩ := hrel
    by_cases hlt : j < l.length
    · have hjz : l[j]? = some l[j] := List.getElem?_eq_getElem hlt
      obtain ⟨b, off, rfl, hbl, hr0⟩ := (HA.out.below hbr).where (by omega)
      obtain ⟨b2, off2, rfl, hcl, hs0⟩ := (HC.out.below hbr).where (by omega)
      have hra := range_part hr0 (fcells_at l j l[j] hjz)
      have hrb := range_part hs0 (fcells_at l j l[j] hjz)
      generalize l[j] = y at hjz hra hrb
      simp only [encF] at hra hrb
      have hne := found_neq y
      have HBR := Lib.hid hbr
      have i1 : (0 : Int) ≤ (j : Int) := by omega
      have i2 : (j : Int) < (l.length : Int) := by omega
      have e1 : IntKind.i64.wrap ((j : Int) + 1) = (j : Int) + 1 := IntWalk.i64_in _ (by omega)
      have hi7 : (Try.prog.info? 48).map (·.size) = some 7 := by kernel_rfl
      clear hjz hr0 hs0 hbr n1
      go_wp2
      refine wp_region_noPanic ?_
      refine wp_region_held_drew (S := (fun wz => Below wr.heap.size wr wz)) (by kernel_rfl) ?_ (fun hHeld => ?_)
      · exact below_self_drew _
      refine takeL 0 (v := ?_) rfl (by kernel_rfl) (by kernel_rfl) (by kernel_rfl) (fun _ _ _ h => h) (Or.inl ⟨by rfl, ?_⟩) (by assumption) ?_
      rotate_left
      · (intro w hSw; go_simp; try with_reducible rfl)
      (try simp only [Act.put, List.setIfInBounds_toArray, List.set_cons_zero, List.set_cons_succ])
      refine takeL 1 (v := ?_) rfl (by kernel_rfl) (by kernel_rfl) (by kernel_rfl) (fun _ _ _ h => h) (Or.inl ⟨by rfl, ?_⟩) (by assumption) ?_
      rotate_left
      · (intro w hSw; go_simp; try with_reducible rfl)
      (try simp only [Act.put, List.setIfInBounds_toArray, List.set_cons_zero, List.set_cons_succ])
      refine takeL 2 (v := ?_) rfl (by kernel_rfl) (by kernel_rfl) (by kernel_rfl) (fun _ _ _ h => h) (Or.inl ⟨by rfl, ?_⟩) (by assumption) ?_
      rotate_left
      · (intro w hSw; go_simp; try with_reducible rfl)
      (try simp only [Act.put, List.setIfInBounds_toArray, List.set_cons_zero, List.set_cons_succ])
      refine takeL 3 (v := _) rfl (by kernel_rfl) (by kernel_rfl) (by kernel_rfl) (fun _ _ _ h => h) (yieldsIf_load_mid (by rfl) _ _ rfl _ _ rfl [.int .i64 y.hd.kind, .int .i64 y.hd.lba, .int .i64 y.hd.len, .int .i64 y.hd.seq, .int .i64 y.hd.epoch, .int .i64 (y.zone : Int), .int .i64 (y.at_ : Int)] _ (fun w hSw => (range_below hra hSw hbl)) Try.underlying48 rfl hi7) (by assumption) ?_
      (try simp only [Act.put, List.setIfInBounds_toArray, List.set_cons_zero, List.set_cons_succ])
      refine takeL 4 (v := ?_) rfl (by kernel_rfl) (by kernel_rfl) (by kernel_rfl) (fun _ _ _ h => h) (Or.inl ⟨by rfl, ?_⟩) (by assumption) ?_
      rotate_left
      · (intro w hSw; go_simp; try with_reducible rfl)
      (try simp only [Act.put, List.setIfInBounds_toArray, List.set_cons_zero, List.set_cons_succ])
      refine takeL 5 (v := ?_) rfl (by kernel_rfl) (by kernel_rfl) (by kernel_rfl) (fun _ _ _ h => h) (Or.inl ⟨by rfl, ?_⟩) (by assumption) ?_
      rotate_left
      · (intro w hSw; go_simp; try with_reducible rfl)
      (try simp only [Act.put, List.setIfInBounds_toArray, List.set_cons_zero, List.set_cons_succ])
      refine takeL 6 (v := ?_) rfl (by kernel_rfl) (by kernel_rfl) (by kernel_rfl) (fun _ _ _ h => h) (Or.inl ⟨by rfl, ?_⟩) (by assumption) ?_
      rotate_left
      · (intro w hSw; go_simp; try with_reducible rfl)
      (try simp only [Act.put, List.setIfInBounds_toArray, List.set_cons_zero, List.set_cons_succ])
      refine takeL 7 (v := _) rfl (by kernel_rfl) (by kernel_rfl) (by kernel_rfl) (fun _ _ _ h => h) (yieldsIf_load_mid (by rfl) _ _ rfl _ _ rfl [.int .i64 y.hd.kind, .int .i64 y.hd.lba, .int .i64 y.hd.len, .int .i64 y.hd.seq, .int .i64 y.hd.epoch, .int .i64 (y.zone : Int), .int .i64 (y.at_ : Int)] _ (fun w hSw => (range_below hrb hSw hcl)) Try.underlying48 rfl hi7) (by assumption) ?_
      (try simp only [Act.put, List.setIfInBounds_toArray, List.set_cons_zero, List.set_cons_succ])
      refine takeL 8 (v := ?_) rfl (by kernel_rfl) (by kernel_rfl) (by kernel_rfl) (fun _ _ _ h => h) (Or.inl ⟨by rfl, ?_⟩) (by assumption) ?_
      rotate_left
      · (intro w hSw; go_simp; try with_reducible rfl)
      (try simp only [Act.put, List.setIfInBounds_toArray, List.set_cons_zero, List.set_cons_succ])
      refine wpAnyH_done (by kernel_rfl) ?_ _
      refine NoPanic.normal ?_
      clear hra hrb
      go_wp2
      exact ⟨⟨j + 1, by omega, rfl, HBR.out.drew⟩, by show l.length - ((j : Int) + 1).toNat < l.length - (j : Int).toNat; omega⟩
    · have hje : j = l.length := by omega
      subst hje
      have hn2 : decide ((l.length : Int) < (l.length : Int)) = false := decide_eq_false (by omega)
      go_wp2
      go_ret
      exact ⟨rfl, hbr⟩
end Go.Proofs.Ytdiokmaomglefaa
