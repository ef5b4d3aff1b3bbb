/- What a law's walk is told of a slice that came in, and what is read off it. -/
import Derived.Test.YthfjlihfgmmomaaAwake
import Derived.OpenShut
import Derived.ProofKit
namespace Go.Proofs.Ythfjlihfgmmomaa
open Go Go.RowKit

def IsRow (k : IntKind) (w : World) (a : Option Addr) (len cap : Nat) (zs : List Int) : Prop :=
  (a = none ∧ len = 0 ∧ cap = 0 ∧ zs = []) ∨
  ∃ x, a = some x ∧ len ≤ cap ∧ cap ≤ maxLen ∧ zs.length = cap ∧ (∀ i, i < zs.length → w.cell? (x.add i) = some (.int k (zs.getD i 0))) ∧ ∀ n ∈ zs, (Lit.int k n).wf = true

theorem row_bs {w : World} {a : Option Addr} {len cap : Nat} {zs : List Int} (h : IsRow .u8 w a len cap zs) (hl : len ≤ 140737488355328) : ∃ l : List UInt8, l.length = len ∧ Bs w (.slice a len cap) l := by
  rcases h with ⟨rfl, rfl, rfl, rfl⟩ | ⟨x, rfl, h1, h2, h3, h4, h5⟩
  · exact ⟨[], rfl, none, 0, rfl, by simp, fun h => absurd rfl h⟩
  · by_cases h0 : len = 0
    · subst h0
      exact ⟨[], rfl, some x, cap, rfl, by simp, fun h => absurd rfl h⟩
    · obtain ⟨b, off, rfl, hc⟩ := ints_at h4 (by omega)
      refine ⟨(zs.take len).map fun n => UInt8.ofNat n.toNat, by simp; omega, some ⟨b, off, none⟩, cap, ?_, by simp; omega, fun _ => ⟨b, off, rfl, ?_, fun j hj => ?_⟩⟩
      · congr 1
        simp; omega
      · have := hc 0 (by omega)
        exact World.block_lt_of_cell? w _ this
      · have hj' : j < zs.length := by simp at hj; omega
        have hjl : j < len := by simp at hj; omega
        rw [hc j hj']
        have hw := h5 (zs[j]) (List.getElem_mem hj')
        have hb := bounds_u8 hw
        congr 1
        simp [hj', hjl]
        omega
end Go.Proofs.Ythfjlihfgmmomaa
