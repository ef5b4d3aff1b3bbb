/- Rows of keys that came in, opened. -/
import Derived.Test.YtkllljgnpcmojaaKs
import Derived.Deep.Slices
import Derived.Lib.SmallJoins
namespace Go.Proofs.Ytkllljgnpcmojaa
open Go Go.RowKit

theorem cells_key : Try.prog.cellsOf 26 = 32 := by kernel_rfl
theorem cells_u8 : Try.prog.cellsOf 5 = 1 := by kernel_rfl

section
variable {H : Type} {enc : TypeId × Value → H} {w : World} {base : Nat} {held : Bool}

/-- Thirty-two cells that read as an array of bytes are a key's. -/
theorem key_cells {fuel : Nat} {cs : List Value} {x : DataW H × List MemPlace} {spare : Nat → Bool} (h : DataW.trod enc Try.prog w base spare held fuel 26 cs = some x) : ∃ k : Key, cs = kc k := by
  obtain ⟨xs, m, _, _, hlen, hxs, hall⟩ := DataW.trod_array Try.underlying26 h
  rw [cells_key] at hlen
  rw [cells_u8] at hall
  have each : ∀ i, i < 32 → ∃ b : UInt8, cs[i]? = some (bv b) := by
    intro i hi
    have h1 := hall i hi
    rw [List.getElem?_eq_getElem (by omega : i < xs.length)] at h1
    obtain ⟨n, hn, _, hw⟩ := DataW.trod_int Try.underlying5 h1
    have hb := bounds_u8 hw
    have hi' : i < cs.length := by omega
    rw [Nat.mul_one, List.drop_eq_getElem_cons hi', List.take_succ_cons, List.take_zero] at hn
    simp only [List.cons.injEq, and_true] at hn
    refine ⟨UInt8.ofNat n.toNat, ?_⟩
    rw [List.getElem?_eq_getElem hi', hn]
    simp only [bv]
    congr 2
    simp
    omega
  obtain ⟨f, hf⟩ := Deep.choose_lt (α := UInt8) each
  refine ⟨⟨(List.range 32).map f, by simp⟩, ?_⟩
  refine List.ext_getElem? fun i => ?_
  by_cases hi : i < 32
  · rw [hf i hi]
    simp [kc, hi]
  · rw [List.getElem?_eq_none (by omega), List.getElem?_eq_none (by rw [kc_length]; omega)]

/-- A slice of keys that came in reads as a list of keys. -/
theorem open_keys {fuel : Nat} {a : Option Addr} {len cap : Nat} {x : DataW H × List MemPlace} (h : DataW.trod enc Try.prog w base (fun _ => true) held fuel 22 [.slice a len cap] = some x) (hl : len ≤ 140737488355328) :
    ∃ l : List Key, Ks w (.slice a len cap) l := by
  rcases Deep.open_slice Try.underlying22 h with ⟨hc, _⟩ | ⟨y, len', cap', m, n, D, Pl, hc, _, h1, h2, hm, _, hall⟩
  · simp only [List.cons.injEq, and_true] at hc
    rw [hc]
    exact ⟨[], ks_nil w⟩
  · simp only [List.cons.injEq, and_true, Value.slice.injEq] at hc
    obtain ⟨rfl, rfl, rfl⟩ := hc
    simp only [if_true] at hm
    subst hm
    rw [cells_key] at hall
    rcases Nat.eq_zero_or_pos len with h0 | h0
    · subst h0
      exact ⟨[], some y, m, rfl, (fun h => by cases h), by simp, h2, by simp, fun hne => absurd rfl hne⟩
    obtain ⟨b, off, spot⟩ := y
    have hspot : spot = none := by
      obtain ⟨cs, hcs, ht⟩ := hall 0 (by omega)
      obtain ⟨_, hl, hc⟩ := World.cells?_some hcs
      have hc0 := hc 0 (by decide)
      rw [List.getElem?_eq_getElem (by omega)] at hc0
      simpa [Addr.add] using World.cell?_spot hc0
    subst hspot
    have each : ∀ i, i < len → ∃ k : Key, w.rangeAt b (off + i * 32) (kc k) := by
      intro i hi
      obtain ⟨cs, hcs, ht⟩ := hall i (by omega)
      obtain ⟨k, rfl⟩ := key_cells ht
      obtain ⟨_, _, hc⟩ := World.cells?_some hcs
      refine ⟨k, fun j v hj => ?_⟩
      have hj' : j < 32 := by rw [← kc_length k]; exact (List.getElem?_eq_some_iff.1 hj).1
      have := hc j hj'
      rw [Go.WideShapes.add_plain, Go.WideShapes.add_plain] at this
      rw [← hj, ← this]
    haveI : Inhabited Key := ⟨k0⟩
    obtain ⟨f, hf⟩ := Deep.choose_lt (α := Key) each
    have hL : ((List.range len).map f).length = len := by simp
    refine ⟨(List.range len).map f, some ⟨b, off, none⟩, m, by rw [hL], (fun h => by cases h), by omega, h2, by omega, fun hne => ⟨b, off, rfl, ?_, fun j k hj => ?_⟩⟩
    · obtain ⟨v0, hv0⟩ : ∃ v, (kc (f 0))[0]? = some v := by
        rw [List.getElem?_eq_getElem (by rw [kc_length]; decide)]
        exact ⟨_, rfl⟩
      exact World.block_lt_of_cell? w _ (hf 0 h0 0 v0 hv0)
    · have hj' : j < len := by
        have := (List.getElem?_eq_some_iff.1 hj).1
        simpa using this
      obtain rfl : f j = k := by
        have := hj
        simp [hj'] at this
        exact this
      exact hf j hj'

/-- A slice of keys that came in. -/
theorem open_karg {a : Option Addr} {len cap : Nat} {d : DataW H} {p : List MemPlace} (h : DataW.Trod enc Try.prog w base (fun _ => true) held 22 (.slice a len cap) d p) (hl : len ≤ 140737488355328) :
    ∃ l : List Key, Ks w (.slice a len cap) l := by
  obtain ⟨fuel, hf⟩ := h
  exact open_keys (by simpa [Value.cells] using hf) hl

/-- A source that came in. -/
theorem open_src {r : Reach} {b0 : Nat} {v : Value} {d : DataW H} {p : List MemPlace} (hv : Value.okWide Try.prog w r b0 24 v) (h : DataW.Trod enc Try.prog w base (fun _ => true) held 24 v d p) :
    ∃ a len cap u, v = .agg #[.slice a len cap, .int .i64 u] ∧ (Lit.int .i64 u).wf = true ∧ (len ≤ 140737488355328 → ∃ l : List Key, Ks w (.slice a len cap) l) := by
  obtain ⟨v0, v1, y0, y1, n, rfl, _, _, h0, h1⟩ := Joins.open_agg2 Try.underlying24 (by kernel_rfl) (by kernel_rfl) hv h
  obtain ⟨u, hu, _, hw⟩ := DataW.trod_int Try.underlying3 h1
  simp only [List.cons.injEq, and_true] at hu
  subst hu
  have key : ∃ a len cap, v0 = .slice a len cap := by
    rcases Deep.open_slice Try.underlying22 h0 with ⟨hc, _⟩ | ⟨y, len, cap, m, n, D, Pl, hc, _⟩
    all_goals
      simp only [List.cons.injEq, and_true] at hc
      exact ⟨_, _, _, hc⟩
  obtain ⟨a, len, cap, rfl⟩ := key
  exact ⟨a, len, cap, u, rfl, hw, fun hl => open_keys h0 hl⟩
end
end Go.Proofs.Ytkllljgnpcmojaa
