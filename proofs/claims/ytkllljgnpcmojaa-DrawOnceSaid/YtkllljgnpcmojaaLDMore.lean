/- What the laws of layer 8 share: both readings of a text give alike. -/
import Derived.Test.YtkllljgnpcmojaaAwake8
import Derived.Test.YtkllljgnpcmojaaReadR
import Derived.Test.YtkllljgnpcmojaaWipeR
namespace Go.Proofs.Ytkllljgnpcmojaa
open Go Go.RowKit

/-- The draws that a reading gives, and the error's number. -/
def kres : Option (List UInt8) → List Key × Int
  | none => ([], 20)
  | some b => if b.length % 32 = 0 then (chunks b (b.length / 32), 0) else ([], 80)
theorem kreads_alike {o : Option (List UInt8)} {e : Ending} {w' : World} (h : KReads o e w') :
    ∃ a n c, e = .returned (.tuple #[.slice a n c, .int .i64 (kres o).2]) ∧ Ks w' (.slice a n c) (kres o).1 := by
  rcases h with ⟨rfl, rfl⟩ | ⟨b, rfl, hne, rfl⟩ | ⟨b, v, rfl, h0, rfl, hv⟩
  · exact ⟨none, 0, 0, rfl, ks_nil w'⟩
  · refine ⟨none, 0, 0, ?_, ?_⟩
    · simp only [kres]; rw [if_neg hne]
    · simp only [kres]; rw [if_neg hne]; exact ks_nil w'
  · obtain ⟨a, c, rfl, _⟩ := id hv
    refine ⟨a, (chunks b (b.length / 32)).length, c, ?_, ?_⟩
    · simp only [kres]; rw [if_pos h0]
    · simp only [kres]; rw [if_pos h0]; exact hv
theorem readd_alike (s : ByteArray) (w : World) (hs : s.size ≤ 1000000) :
    Calls Try.prog 11 #[.string s] w fun e w' => (∃ a n c, e = .returned (.tuple #[.slice a n c, .int .i64 (kres (scan (-1) s.data.toList)).2]) ∧ Ks w' (.slice a n c) (kres (scan (-1) s.data.toList)).1) ∧ Below w.heap.size w w' :=
  (read_any s w hs).mono fun _ _ h => ⟨kreads_alike h.1, h.2⟩
theorem refreadd_alike (s : ByteArray) (w : World) (hs : s.size ≤ 1000000) :
    Calls Try.prog 12 #[.string s] w fun e w' => (∃ a n c, e = .returned (.tuple #[.slice a n c, .int .i64 (kres (scan (-1) s.data.toList)).2]) ∧ Ks w' (.slice a n c) (kres (scan (-1) s.data.toList)).1) ∧ Below w.heap.size w w' :=
  (refread_any s w hs).mono fun _ _ h => ⟨kreads_alike h.1, h.2⟩
/-- A source that lies in a block that was there reads on. -/
theorem src_on {w w' : World} {D : Nat} {a : Option Addr} {n c : Nat} {u : Int} (h : w.heap[D]? = some (.cells #[.slice a n c, .int .i64 u] 24 (0, 0))) (hb : Below w.heap.size w w') :
    w'.cell? ⟨D, 0, none⟩ = some (.slice a n c) ∧ w'.cell? ⟨D, 1, none⟩ = some (.int .i64 u) :=
  ⟨(hb.cell (p := ⟨D, 0, none⟩) (block_lt h)).trans ((cell_of_block h 0).trans rfl), (hb.cell (p := ⟨D, 1, none⟩) (block_lt h)).trans ((cell_of_block h 1).trans rfl)⟩
theorem blk_on {w w' : World} {D : Nat} {o : Obj} (h : w.heap[D]? = some o) (hb : Below w.heap.size w w') : w'.heap[D]? = some o := (hb.block D (block_lt h)).trans h
end Go.Proofs.Ytkllljgnpcmojaa
