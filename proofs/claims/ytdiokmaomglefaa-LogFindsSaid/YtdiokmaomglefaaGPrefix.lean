/- bytes.Equal, bytes.HasPrefix. -/
import Derived.Test.YtdiokmaomglefaaMA
import Derived.Stop.BytesEq
namespace Go.Proofs.Ytdiokmaomglefaa
open Go Go.RowKit

/-- string(v) of a slice that reads as bytes. -/
theorem bt_string {w : World} {v : Value} {l : List UInt8} (h : Bt w v l) : (convert 24 9 v).run Try.prog w = .ok (.string ⟨l.toArray⟩) w := by
  obtain ⟨a, cap, rfl, _, _, _, _, hc⟩ := h
  by_cases hl : l = []
  · subst hl
    cases a with
    | none => exact run_convert_bytes_nil w 24 5 Try.underlying24 Try.underlying5 0 cap 9 Try.underlying9
    | some a =>
      have := run_bytesToString (P := Try.prog) w a 0 cap [] (run_loadCells_list w a [] (by simp))
      rw [run_convert_bytes_string w _ _ _ _ _ _ Try.underlying24 Try.underlying5 Try.underlying9]
      exact this
  · obtain ⟨b, off, rfl, _, hcell⟩ := hc hl
    have h := run_convert_bytes_arg (P := Try.prog) w 24 5 Try.underlying24 Try.underlying5 b off l.length cap (l.map fun x => (x.toNat : Int)) (by simp) (fun i hi => by rw [hcell i hi]; simp [hi, bv]) 9 Try.underlying9
    rw [h]
    have e : strOfNums (l.map fun x => (x.toNat : Int)) = ⟨l.toArray⟩ := by
      simp [strOfNums]
      apply List.ext_getElem <;> simp
    rw [e]
theorem equal_any (v1 v2 : Value) (l1 l2 : List UInt8) (b : Bool) (hb : decide (l1 = l2) = b) (w : World) (h1 : Bt w v1 l1) (h2 : Bt w v2 l2) :
    Calls Try.prog 65 #[v1, v2] w fun e w' => e = .returned (.bool b) ∧ Below w.heap.size w w' := by
  have c1 := bt_string h1
  have c2 := bt_string h2
  obtain ⟨a1, p1, rfl, _⟩ := h1
  obtain ⟨a2, p2, rfl, _⟩ := h2
  have he : (l1 == l2) = b := by
    rw [← hb]
    by_cases h : l1 = l2
    · subst h; simp
    · rw [decide_eq_false h]
      exact beq_eq_false_iff_ne.2 h
  clear hb
  go_enter Try.func65, Try.ntmps65
  go_wp2_with fail
  go_ret
  exact ⟨rfl, Below.refl _ _⟩
theorem prefix_any (b off n cap : Nat) (a2 : Option Addr) (m c2 : Nat) (l1 l2 : List UInt8) (hle : l2.length ≤ l1.length) (r : Bool) (hr : decide (l1.take l2.length = l2) = r) (w : World) (h1 : Bt w (.slice (some ⟨b, off, none⟩) n cap) l1) (h2 : Bt w (.slice a2 m c2) l2) :
    Calls Try.prog 44 #[.slice (some ⟨b, off, none⟩) n cap, .slice a2 m c2] w fun e w' => e = .returned (.bool r) ∧ Below w.heap.size w w' := by
  obtain ⟨rfl, p1, p2, p3⟩ := h1.len
  obtain ⟨rfl, q1, q2, q3⟩ := h2.len
  have hpart := h1.part 0 l2.length cap (by omega) (by omega) p2
  rw [List.drop_zero, Nat.add_zero] at hpart
  have i1 : (l2.length : Int) ≤ (l1.length : Int) := by omega
  have i2 : (0 : Int) ≤ (l2.length : Int) := by omega
  have i3 : (l2.length : Int) ≤ (cap : Int) := by omega
  have he := equal_any _ _ _ _ r hr w hpart h2
  have HE := Lib.hid he
  clear he hr h1 h2 hpart
  go_enter Try.func44, Try.ntmps44
  go_wp2_with fail
  refine HE.out.mono ?_
  rintro e w1 ⟨rfl, hb1⟩
  go_wp2
  go_ret
  exact ⟨rfl, hb1⟩
end Go.Proofs.Ytdiokmaomglefaa
