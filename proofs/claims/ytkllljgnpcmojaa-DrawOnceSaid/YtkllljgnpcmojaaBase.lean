/- Slices that read as bytes: fresh blocks, own rows, texts of them. -/
import Derived.Test.YtkllljgnpcmojaaRef
namespace Go.Proofs.Ytkllljgnpcmojaa
open Go Go.RowKit

theorem bs_alloc (w : World) (l : List UInt8) (t : TypeId) (hl : l.length ≤ 140737488355328) : Bs (w.alloc (.cells (l.map bv).toArray t)) (.slice (some ⟨w.heap.size, 0, none⟩) l.length l.length) l := by
  refine ⟨_, _, rfl, (fun h => by cases h), hl, fun _ => ⟨w.heap.size, 0, rfl, by simp, fun j hj => ?_⟩⟩
  rw [World.cell?_alloc_at _ _ _ _ rfl]
  simp [hj, bv]
theorem own_bs {w : World} {B : Nat} {e : TypeId} {v : Value} {l : List UInt8} (h : w.ownsRow B e 1 v l.length (l.map bv)) (hl : l.length ≤ 140737488355328) : Bs w v l := by
  rcases h.2 with ⟨rfl, h0⟩ | ⟨g, cap, cur, rfl, hg, hh, r⟩
  · have : l = [] := List.eq_nil_of_length_eq_zero h0
    subst this
    exact ⟨none, 0, rfl, fun _ => rfl, by simp, fun h => absurd rfl h⟩
  · refine ⟨_, _, rfl, (fun h => by cases h), hl, fun _ => ⟨g, 0, rfl, (Array.getElem?_eq_some_iff.1 hh).1, fun j hj => ?_⟩⟩
    have hc := h.cells (g := g) rfl j (bv (l[j])) (by simp [hj])
    have ha : (⟨g, 0, none⟩ : Addr).add j = ⟨g, 0 + j, none⟩ := by unfold Addr.add; split <;> simp_all
    rw [ha] at hc
    rw [hc, List.getElem?_eq_getElem hj]; rfl
/-- string(v) of a slice that reads as bytes. -/
theorem bs_string {w : World} {v : Value} {l : List UInt8} (h : Bs w v l) : (convert 41 9 v).run Try.prog w = .ok (.string ⟨l.toArray⟩) w := by
  obtain ⟨a, cap, rfl, _, _, hc⟩ := h
  by_cases hl : l = []
  · subst hl
    cases a with
    | none => exact run_convert_bytes_nil w 41 5 Try.underlying41 Try.underlying5 0 cap 9 Try.underlying9
    | some a =>
      have := run_bytesToString (P := Try.prog) w a 0 cap [] (run_loadCells_list w a [] (by simp))
      rw [run_convert_bytes_string w _ _ _ _ _ _ Try.underlying41 Try.underlying5 Try.underlying9]
      exact this
  · obtain ⟨b, off, rfl, _, hcell⟩ := hc hl
    have h := run_convert_bytes_arg (P := Try.prog) w 41 5 Try.underlying41 Try.underlying5 b off l.length cap (l.map fun x => (x.toNat : Int)) (by simp) (fun i hi => by rw [hcell i hi]; simp [hi]) 9 Try.underlying9
    rw [h]
    congr 2
    simp [strOfNums]
    apply List.ext_getElem <;> simp

end Go.Proofs.Ytkllljgnpcmojaa
