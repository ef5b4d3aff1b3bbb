/- What came in for LogFinds: heads, and a key. -/
import Derived.Test.YtdiokmaomglefaaLRaw
import Derived.Test.YtdiokmaomglefaaMH
namespace Go.Proofs.Ytdiokmaomglefaa
open Go Go.RowKit

/-- A slice of heads that came in. -/
def RawHs (w : World) (v : Value) : Prop := ∃ a n cap, v = .slice a n cap ∧ n ≤ maxLen ∧ (0 < n → ∃ b off, a = some ⟨b, off, none⟩ ∧ b < w.heap.size ∧ ∀ j, j < n → ∃ h : Hd, w.rangeAt b (off + j * 5) [.int .i64 h.kind, .int .i64 h.lba, .int .i64 h.len, .int .i64 h.seq, .int .i64 h.epoch])
theorem RawHs.below {w w' : World} {v : Value} (h : RawHs w v) (hb : Below w.heap.size w w') : RawHs w' v := by
  obtain ⟨a, n, cap, hv, hn, hr⟩ := h
  refine ⟨a, n, cap, hv, hn, fun h0 => ?_⟩
  obtain ⟨b, off, ha, hlt, hj⟩ := hr h0
  refine ⟨b, off, ha, Nat.lt_of_lt_of_le hlt hb.size, fun j h1 => ?_⟩
  obtain ⟨h2, h3⟩ := hj j h1
  exact ⟨h2, range_below h3 hb hlt⟩
theorem cells_head : Try.prog.cellsOf 46 = 5 := by kernel_rfl
theorem cells_heads : Try.prog.cellsOf 54 = 1 := by kernel_rfl
theorem cells_key : Try.prog.cellsOf 55 = 32 := by kernel_rfl
section
variable {H : Type} {enc : TypeId × Value → H} {w : World} {base : Nat} {held : Bool}
set_option maxRecDepth 100000 in
/-- A head's cells. -/
theorem open_head {fuel : Nat} {cs : List Value} {x : DataW H × List MemPlace} (h : DataW.trod enc Try.prog w base (fun _ => true) held fuel 46 cs = some x) :
    ∃ z : Hd, cs = [.int .i64 z.kind, .int .i64 z.lba, .int .i64 z.len, .int .i64 z.seq, .int .i64 z.epoch] := by
  obtain ⟨xs, n, _, _, hl, hlen, hg⟩ := DataW.trod_struct Try.underlying46 h
  rw [cells_head] at hl
  match cs, hl with
  | [c0, c1, c2, c3, c4], _ =>
    match xs, hlen with
    | [y0, y1, y2, y3, y4], _ =>
      obtain ⟨a, rfl⟩ := open_int1 (v := c0) (by simpa [cells_int] using hg 0 _ rfl)
      obtain ⟨b, rfl⟩ := open_int1 (v := c1) (by simpa [cells_int] using hg 1 _ rfl)
      obtain ⟨c, rfl⟩ := open_int1 (v := c2) (by simpa [cells_int] using hg 2 _ rfl)
      obtain ⟨d, rfl⟩ := open_int1 (v := c3) (by simpa [cells_int] using hg 3 _ rfl)
      obtain ⟨e, rfl⟩ := open_int1 (v := c4) (by simpa [cells_int] using hg 4 _ rfl)
      exact ⟨⟨a, b, c, d, e⟩, rfl⟩
/-- A slice of heads that came in. -/
theorem open_heads0 {fuel : Nat} {v : Value} {x : DataW H × List MemPlace} (h : DataW.trod enc Try.prog w base (fun _ => true) held fuel 54 [v] = some x) : RawHs w v := by
  rcases Deep.open_slice Try.underlying54 h with ⟨hc, _⟩ | ⟨a, len, cap, m, n, D, Pl, hc, _, h1, h2, hm, _, hall⟩
  · simp only [List.cons.injEq, and_true] at hc
    subst hc
    exact ⟨none, 0, 0, rfl, by unfold maxLen; omega, fun h => absurd h (by omega)⟩
  · simp only [List.cons.injEq, and_true] at hc
    subst hc
    simp only [if_true] at hm
    subst hm
    rw [cells_head] at hall
    refine ⟨some a, len, m, rfl, by omega, fun h0 => ?_⟩
    have each : ∀ i, i < len → ∃ z : Hd, ∀ (j : Nat) (u : Value), [Value.int .i64 z.kind, .int .i64 z.lba, .int .i64 z.len, .int .i64 z.seq, .int .i64 z.epoch][j]? = some u → w.cell? ((a.add (i * 5)).add j) = some u := by
      intro i hi
      obtain ⟨cs, hcs, ht⟩ := hall i (by omega)
      obtain ⟨z, rfl⟩ := open_head ht
      obtain ⟨_, _, hc⟩ := World.cells?_some hcs
      refine ⟨z, fun j u hj => ?_⟩
      have hj' : j < 5 := (List.getElem?_eq_some_iff.1 hj).1
      rw [hc j hj', hj]
    obtain ⟨z0, hz0⟩ := each 0 h0
    have h3 := hz0 0 _ rfl
    have hs : a.spot = none := by
      rw [Nat.zero_mul] at h3
      have h4 := spot_none h3
      obtain ⟨b, off, spot⟩ := a
      simpa [Addr.add] using h4
    obtain ⟨b, off, spot⟩ := a
    simp only at hs
    subst hs
    rw [Go.WideShapes.add_plain, Go.WideShapes.add_plain] at h3
    refine ⟨b, off, rfl, World.block_lt_of_cell? w _ h3, fun j hj => ?_⟩
    obtain ⟨z, hz⟩ := each j hj
    refine ⟨z, fun i u hi => ?_⟩
    have h5 := hz i u hi
    rw [Go.WideShapes.add_plain, Go.WideShapes.add_plain] at h5
    exact h5
set_option maxRecDepth 100000 in
theorem open_heads {r : Reach} {b0 : Nat} {v : Value} {d : DataW H} {p : List MemPlace} (hv : Value.okWide Try.prog w r b0 54 v) (h : DataW.Trod enc Try.prog w base (fun _ => true) held 54 v d p) : RawHs w v := by
  obtain ⟨a, len, cap, rfl⟩ := Go.WideShapes.okWide_slice Try.underlying54 hv
  obtain ⟨fuel, hf⟩ := h
  exact open_heads0 (by simpa [Value.cells] using hf)
/-- Thirty-two cells that read as an array of bytes are a key's. -/
theorem key_cells {fuel : Nat} {cs : List Value} {x : DataW H × List MemPlace} {spare : Nat → Bool} (h : DataW.trod enc Try.prog w base spare held fuel 55 cs = some x) : ∃ l : List UInt8, l.length = 32 ∧ cs = l.map bv := by
  obtain ⟨xs, m, _, _, hlen, hxs, hall⟩ := DataW.trod_array Try.underlying55 h
  rw [cells_key] at hlen
  rw [cells_u8] at hall
  have each : ∀ i, i < 32 → ∃ b : UInt8, cs[i]? = some (bv b) := by
    intro i hi
    have h1 := hall i hi
    rw [List.getElem?_eq_getElem (by omega : i < xs.length)] at h1
    obtain ⟨n, hn, _, hw⟩ := DataW.trod_int Try.underlying5 h1
    have hb := bounds_u8 hw
    have hi' : i < cs.length := by omega
    rw [Nat.mul_one, List.drop_eq_getElem_cons hi', List.take_succ_cons, List.take_zero] at hn
    simp only [List.cons.injEq, and_true] at hn
    refine ⟨UInt8.ofNat n.toNat, ?_⟩
    rw [List.getElem?_eq_getElem hi', hn]
    simp only [bv]
    congr 2
    simp
    omega
  obtain ⟨f, hf⟩ := Deep.choose_lt (α := UInt8) each
  refine ⟨(List.range 32).map f, by simp, ?_⟩
  refine List.ext_getElem? fun i => ?_
  by_cases hi : i < 32
  · rw [hf i hi]
    simp [hi]
  · rw [List.getElem?_eq_none (by omega), List.getElem?_eq_none (by simp; omega)]
set_option maxRecDepth 100000 in
/-- A key that came in. -/
theorem open_key {r : Reach} {b0 : Nat} {v : Value} {d : DataW H} {p : List MemPlace} (hv : Value.okWide Try.prog w r b0 55 v) (h : DataW.Trod enc Try.prog w base (fun _ => true) held 55 v d p) :
    ∃ cs : List Value, v = .agg cs.toArray ∧ ∃ l : List UInt8, l.length = 32 ∧ cs = l.map bv := by
  have hvv : ∃ cs, v = .agg cs ∧ cs.size = Try.prog.cellsOf 55 := by
    simp only [Value.okWide, Try.underlying55] at hv
    obtain ⟨cs, h1, h2, _⟩ := hv
    exact ⟨cs, h1, h2⟩
  obtain ⟨cs, rfl, hsz⟩ := hvv
  obtain ⟨l⟩ := cs
  obtain ⟨fuel, hf⟩ := h
  exact ⟨l, rfl, key_cells (by simpa [Value.cells] using hf)⟩
end
end Go.Proofs.Ytdiokmaomglefaa
