/- Devices that came in, opened: slices of whatever length. -/
import Derived.Test.YtdiokmaomglefaaMD
import Derived.Deep.Slices
import Derived.Deep.Strs
import Derived.Lib.SmallJoins
namespace Go.Proofs.Ytdiokmaomglefaa
open Go Go.RowKit

/-- A slice of bytes; it reads as a list if it is no longer than memory is. -/
def RawB (w : World) (v : Value) (n : Nat) : Prop := ∃ a cap, v = .slice a n cap ∧ n ≤ maxLen ∧ (n ≤ 140737488355328 → ∃ l : List UInt8, l.length = n ∧ Bt w v l)
theorem RawB.below {w w' : World} {v : Value} {n : Nat} (h : RawB w v n) (hb : Below w.heap.size w w') : RawB w' v n := by
  obtain ⟨a, cap, hv, hn, hl⟩ := h
  exact ⟨a, cap, hv, hn, fun hn2 => by obtain ⟨l, h1, h2⟩ := hl hn2; exact ⟨l, h1, h2.below hb⟩⟩
/-- A zone's state, slice, its length, and how much of it lasts. -/
structure RawZ where
  st : Int
  v : Value
  n : Nat
  la : Int
structure RawD (w : World) (cs : List Value) (size : Int) (az : Option Addr) (cz : Nat) (zs : List RawZ) (r0 r1 f0 f1 : Value) (n0 n1 m0 m1 : Nat) (down : Bool) (left fault done : Int) : Prop where
  eq : cs = [.int .i64 size, .slice az zs.length cz, r0, r1, f0, f1, .bool down, .int .i64 left, .int .i64 fault, .int .i64 done]
  b0 : RawB w r0 n0
  b1 : RawB w r1 n1
  c0 : RawB w f0 m0
  c1 : RawB w f1 m1
  cap : az = none → cz = 0
  le : zs.length ≤ cz
  max : cz ≤ maxLen
  blk : zs ≠ [] → ∃ b off, az = some ⟨b, off, none⟩ ∧ b < w.heap.size
  row : ∀ b off, az = some ⟨b, off, none⟩ → ∀ (j : Nat) (z : RawZ), zs[j]? = some z → RawB w z.v z.n ∧ w.rangeAt b (off + j * 3) [.int .i64 z.st, z.v, .int .i64 z.la]
theorem RawB.list {w : World} {v : Value} {n : Nat} (h : RawB w v n) (hn : n ≤ 140737488355328) : ∃ l : List UInt8, l.length = n ∧ Bt w v l := by
  obtain ⟨_, _, _, _, hl⟩ := h
  exact hl hn
/-- Where all slices are short, it reads as a device. -/
theorem RawD.is {w : World} {cs : List Value} {size : Int} {az : Option Addr} {cz : Nat} {zs : List RawZ} {r0 r1 f0 f1 : Value} {n0 n1 m0 m1 : Nat} {down : Bool} {left fault done : Int}
    (h : RawD w cs size az cz zs r0 r1 f0 f1 n0 n1 m0 m1 down left fault done) (hz : ∀ z ∈ zs, z.n ≤ 300) (h0 : n0 ≤ 200) (h1 : n1 ≤ 200) (h2 : m0 ≤ 200) (h3 : m1 ≤ 200) :
    ∃ d : Dv, DvIs w cs d ∧ d.zs.length = zs.length ∧ (∀ z ∈ d.zs, z.data.length ≤ 300) ∧ d.down = down ∧ d.left = left ∧ d.fault = fault := by
  obtain ⟨l0, _, e0⟩ := h.b0.list (by omega)
  obtain ⟨l1, _, e1⟩ := h.b1.list (by omega)
  obtain ⟨l2, _, e2⟩ := h.c0.list (by omega)
  obtain ⟨l3, _, e3⟩ := h.c1.list (by omega)
  by_cases hne : zs = []
  · subst hne
    refine ⟨⟨size, [], l0, l1, l2, l3, down, left, fault, done⟩, ⟨_, r0, r1, f0, f1, h.eq, ⟨[], ⟨rfl, fun j z u hz => by simp at hz⟩, ⟨az, cz, rfl, rfl, h.cap, h.le, h.max, fun hx => absurd rfl hx⟩⟩, e0, e1, e2, e3⟩, rfl, by simp, rfl, rfl, rfl⟩
  · obtain ⟨b, off, ha, hb⟩ := h.blk hne
    have each : ∀ j, j < zs.length → ∃ l : List UInt8, ∀ z, zs[j]? = some z → l.length = z.n ∧ Bt w z.v l := by
      intro j hj
      obtain ⟨hr, _⟩ := h.row b off ha j zs[j] (List.getElem?_eq_getElem hj)
      obtain ⟨l, hl1, hl2⟩ := hr.list (by have := hz _ (List.getElem_mem hj); omega)
      exact ⟨l, fun z hz => by rw [List.getElem?_eq_getElem hj] at hz; cases hz; exact ⟨hl1, hl2⟩⟩
    obtain ⟨f, hf⟩ := Deep.choose_lt (α := List UInt8) each
    have hzl : ∀ (j : Nat) (z : Zn), ((List.range zs.length).map fun j => (⟨(zs[j]?.map (·.st)).getD 0, f j, (zs[j]?.map (·.la)).getD 0⟩ : Zn))[j]? = some z → ∃ r, zs[j]? = some r ∧ z = ⟨r.st, f j, r.la⟩ := by
      intro j z hz
      have hj : j < zs.length := by
        have := (List.getElem?_eq_some_iff.1 hz).1
        simpa using this
      refine ⟨zs[j], List.getElem?_eq_getElem hj, ?_⟩
      have := hz
      simp [hj] at this
      exact this.symm
    refine ⟨⟨size, (List.range zs.length).map fun j => ⟨(zs[j]?.map (·.st)).getD 0, f j, (zs[j]?.map (·.la)).getD 0⟩, l0, l1, l2, l3, down, left, fault, done⟩, ⟨.slice az zs.length cz, r0, r1, f0, f1, h.eq, ⟨zs.map (·.v), ⟨by simp, ?_⟩, ?_⟩, e0, e1, e2, e3⟩, by simp, ?_, rfl, rfl, rfl⟩
    · intro j z u hz hu
      obtain ⟨r, hr, rfl⟩ := hzl j z hz
      have hu' : r.v = u := by
        rw [List.getElem?_map, hr] at hu
        simpa using hu
      subst hu'
      exact (hf j (List.getElem?_eq_some_iff.1 hr).1 r hr).2
    · refine ⟨az, cz, by simp, ?_, h.cap, by simpa using h.le, h.max, fun _ => ⟨b, off, ha, hb, ?_⟩⟩
      · rw [zcs_len _ _ (by simp)]
      · intro t u ht
        have hlen := zcs_len ((List.range zs.length).map fun j => (⟨(zs[j]?.map (·.st)).getD 0, f j, (zs[j]?.map (·.la)).getD 0⟩ : Zn)) (zs.map (·.v)) (by simp)
        have htl : t < zs.length * 3 := by
          have := (List.getElem?_eq_some_iff.1 ht).1
          rw [hlen] at this
          simpa using this
        obtain ⟨q, m, rfl, hm⟩ : ∃ q m, t = q * 3 + m ∧ m < 3 := ⟨t / 3, t % 3, by omega, Nat.mod_lt _ (by decide)⟩
        have hj : q < zs.length := by omega
        obtain ⟨_, hrow⟩ := h.row b off ha q zs[q] (List.getElem?_eq_getElem hj)
        obtain ⟨z0, z1, z2⟩ := zcs_at ((List.range zs.length).map fun j => (⟨(zs[j]?.map (·.st)).getD 0, f j, (zs[j]?.map (·.la)).getD 0⟩ : Zn)) (zs.map (·.v)) (by simp) q ⟨zs[q].st, f q, zs[q].la⟩ zs[q].v (by simp [hj]) (by simp [hj])
        have hm3 : m = 0 ∨ m = 1 ∨ m = 2 := by omega
        rw [← Nat.add_assoc]
        rcases hm3 with rfl | rfl | rfl
        · rw [Nat.add_zero, z0] at ht
          cases ht
          exact hrow 0 _ rfl
        · rw [z1] at ht
          cases ht
          exact hrow 1 _ rfl
        · rw [z2] at ht
          cases ht
          exact hrow 2 _ rfl
    · intro z hz'
      obtain ⟨j, hj⟩ := List.getElem?_of_mem hz'
      obtain ⟨r, hr, rfl⟩ := hzl j z hj
      have := (hf j (List.getElem?_eq_some_iff.1 hr).1 r hr).1
      have h9 := hz r (List.mem_of_getElem? hr)
      simp only
      omega
theorem cells_u8 : Try.prog.cellsOf 5 = 1 := by kernel_rfl
theorem cells_bytes : Try.prog.cellsOf 24 = 1 := by kernel_rfl
theorem cells_int : Try.prog.cellsOf 3 = 1 := by kernel_rfl
theorem cells_zone : Try.prog.cellsOf 52 = 3 := by kernel_rfl
section
variable {H : Type} {enc : TypeId × Value → H} {w : World} {base : Nat} {held : Bool}
theorem spot_none {a : Addr} {v : Value} (h : w.cell? (a.add 0) = some v) : a.spot = none := by
  simpa [Addr.add] using World.cell?_spot h
/-- A slice of bytes that came in. -/
theorem open_rawb {fuel : Nat} {v : Value} {x : DataW H × List MemPlace} (h : DataW.trod enc Try.prog w base (fun _ => true) held fuel 24 [v] = some x) : ∃ n, RawB w v n := by
  rcases Deep.open_slice1 Try.underlying24 cells_u8 h with ⟨hc, _⟩ | ⟨a, len, cap, m, n, V, D, Pl, hc, _, h1, h2, hm, _, hall⟩
  · simp only [List.cons.injEq, and_true] at hc
    subst hc
    exact ⟨0, none, 0, rfl, by unfold maxLen; omega, fun _ => ⟨[], rfl, bt_nil w⟩⟩
  · simp only [List.cons.injEq, and_true] at hc
    subst hc
    simp only [if_true] at hm
    subst hm
    refine ⟨len, some a, m, rfl, by omega, fun hn => ?_⟩
    have each : ∀ i, i < len → ∃ b : UInt8, w.cell? (a.add i) = some (bv b) := by
      intro i hi
      obtain ⟨hc, ht⟩ := hall i (by omega)
      obtain ⟨q, hq, _, hw⟩ := DataW.trod_int Try.underlying5 ht
      have hb := bounds_u8 hw
      simp only [List.cons.injEq, and_true] at hq
      refine ⟨UInt8.ofNat q.toNat, ?_⟩
      rw [hc, hq]
      simp only [bv]
      congr 2
      simp
      omega
    obtain ⟨f, hf⟩ := Deep.choose_lt (α := UInt8) each
    refine ⟨(List.range len).map f, by simp, some a, m, by simp, (fun e => by cases e), by simpa using h1, h2, by simpa using hn, fun hne => ?_⟩
    have h0 : 0 < len := by
      rcases Nat.eq_zero_or_pos len with h | h
      · subst h; simp at hne
      · exact h
    have hs := spot_none (hf 0 h0)
    obtain ⟨b, off, spot⟩ := a
    simp only at hs
    subst hs
    refine ⟨b, off, rfl, ?_, fun j hj => ?_⟩
    · have := hf 0 h0
      rw [Go.WideShapes.add_plain] at this
      exact World.block_lt_of_cell? w _ this
    · have hj' : j < len := by simpa using hj
      have := hf j hj'
      rw [Go.WideShapes.add_plain] at this
      rw [this]
      simp [hj']
theorem open_int1 {fuel : Nat} {v : Value} {x : DataW H × List MemPlace} (h : DataW.trod enc Try.prog w base (fun _ => true) held fuel 3 [v] = some x) : ∃ n : Int, v = .int .i64 n := by
  obtain ⟨q, hq, _, _⟩ := DataW.trod_int Try.underlying3 h
  simp only [List.cons.injEq, and_true] at hq
  exact ⟨q, hq⟩
set_option maxRecDepth 100000 in
/-- A zone's cells. -/
theorem open_zone {fuel : Nat} {cs : List Value} {x : DataW H × List MemPlace} (h : DataW.trod enc Try.prog w base (fun _ => true) held fuel 52 cs = some x) :
    ∃ z : RawZ, cs = [.int .i64 z.st, z.v, .int .i64 z.la] ∧ RawB w z.v z.n := by
  obtain ⟨y0, y1, y2, n, rfl, hl, h0, h1, h2⟩ := Go.Deep.trod_struct3 Try.underlying52 h
  rw [cells_zone] at hl
  match cs, hl with
  | [c0, c1, c2], _ =>
    obtain ⟨st, rfl⟩ := open_int1 (v := c0) (by simpa [cells_int] using h0)
    obtain ⟨m, hm⟩ := open_rawb (v := c1) (by simpa [cells_bytes] using h1)
    obtain ⟨la, rfl⟩ := open_int1 (v := c2) (by simpa [cells_int] using h2)
    exact ⟨⟨st, c1, m, la⟩, rfl, hm⟩
instance : Inhabited RawZ := ⟨⟨0, undef, 0, 0⟩⟩
/-- A slice of zones that came in. -/
theorem open_zones {fuel : Nat} {v : Value} {x : DataW H × List MemPlace} (h : DataW.trod enc Try.prog w base (fun _ => true) held fuel 23 [v] = some x) :
    ∃ az cz, ∃ zs : List RawZ, v = .slice az zs.length cz ∧ (az = none → cz = 0) ∧ zs.length ≤ cz ∧ cz ≤ maxLen ∧ (zs ≠ [] → ∃ b off, az = some ⟨b, off, none⟩ ∧ b < w.heap.size) ∧
      ∀ b off, az = some ⟨b, off, none⟩ → ∀ (j : Nat) (z : RawZ), zs[j]? = some z → RawB w z.v z.n ∧ w.rangeAt b (off + j * 3) [.int .i64 z.st, z.v, .int .i64 z.la] := by
  rcases Deep.open_slice Try.underlying23 h with ⟨hc, _⟩ | ⟨a, len, cap, m, n, D, Pl, hc, _, h1, h2, hm, _, hall⟩
  · simp only [List.cons.injEq, and_true] at hc
    subst hc
    exact ⟨none, 0, [], rfl, fun _ => rfl, Nat.le_refl _, by unfold maxLen; omega, fun h => absurd rfl h, fun b off e => by cases e⟩
  · simp only [List.cons.injEq, and_true] at hc
    subst hc
    simp only [if_true] at hm
    subst hm
    rw [cells_zone] at hall
    have each : ∀ i, i < len → ∃ z : RawZ, RawB w z.v z.n ∧ ∀ (j : Nat) (u : Value), [Value.int .i64 z.st, z.v, .int .i64 z.la][j]? = some u → w.cell? ((a.add (i * 3)).add j) = some u := by
      intro i hi
      obtain ⟨cs, hcs, ht⟩ := hall i (by omega)
      obtain ⟨z, rfl, hz⟩ := open_zone ht
      obtain ⟨_, _, hc⟩ := World.cells?_some hcs
      refine ⟨z, hz, fun j u hj => ?_⟩
      have hj' : j < 3 := (List.getElem?_eq_some_iff.1 hj).1
      rw [hc j hj', hj]
    obtain ⟨f, hf⟩ := Deep.choose_lt (α := RawZ) each
    refine ⟨some a, m, (List.range len).map f, by simp, (fun e => by cases e), by simpa using h1, h2, fun hne => ?_, fun b off e j z hz => ?_⟩
    · have h0 : 0 < len := by
        rcases Nat.eq_zero_or_pos len with h | h
        · subst h; simp at hne
        · exact h
      have h3 := (hf 0 h0).2 0 _ rfl
      have hs : a.spot = none := by
        rw [Nat.zero_mul] at h3
        have h4 := spot_none h3
        obtain ⟨b, off, spot⟩ := a
        simpa [Addr.add] using h4
      obtain ⟨b, off, spot⟩ := a
      simp only at hs
      subst hs
      rw [Go.WideShapes.add_plain, Go.WideShapes.add_plain] at h3
      exact ⟨b, off, rfl, World.block_lt_of_cell? w _ h3⟩
    · cases e
      have hj : j < len := by
        have := (List.getElem?_eq_some_iff.1 hz).1
        simpa using this
      obtain rfl : f j = z := by
        have := hz
        simp [hj] at this
        exact this
      refine ⟨(hf j hj).1, fun i u hi => ?_⟩
      have h3 := (hf j hj).2 i u hi
      rw [Go.WideShapes.add_plain, Go.WideShapes.add_plain] at h3
      exact h3
theorem cells_pair : Try.prog.cellsOf 25 = 2 := by kernel_rfl
theorem cells_zones : Try.prog.cellsOf 23 = 1 := by kernel_rfl
theorem cells_bool : Try.prog.cellsOf 4 = 1 := by kernel_rfl
theorem cells_dev : Try.prog.cellsOf 27 = 10 := by kernel_rfl
theorem open_pair {fuel : Nat} {v u : Value} {x : DataW H × List MemPlace} (h : DataW.trod enc Try.prog w base (fun _ => true) held fuel 25 [v, u] = some x) : (∃ n, RawB w v n) ∧ ∃ n, RawB w u n := by
  obtain ⟨xs, m, _, _, _, hxs, hall⟩ := DataW.trod_array Try.underlying25 h
  rw [cells_bytes] at hall
  have h0 := hall 0 (by omega)
  have h1 := hall 1 (by omega)
  rw [List.getElem?_eq_getElem (by omega)] at h0 h1
  exact ⟨open_rawb (by simpa using h0), open_rawb (by simpa using h1)⟩
set_option maxRecDepth 100000 in
/-- A device that came in. -/
theorem open_dev {r : Reach} {b0 : Nat} {v : Value} {d : DataW H} {p : List MemPlace} (hv : Value.okWide Try.prog w r b0 27 v) (h : DataW.Trod enc Try.prog w base (fun _ => true) held 27 v d p) :
    ∃ cs, v = .agg cs.toArray ∧ ∃ size az cz zs r0 r1 f0 f1 n0 n1 m0 m1 down left fault done, RawD w cs size az cz zs r0 r1 f0 f1 n0 n1 m0 m1 down left fault done := by
  obtain ⟨cs, rfl, hsz⟩ := Go.WideShapes.okWide_struct Try.underlying27 hv
  obtain ⟨l⟩ := cs
  obtain ⟨fuel, hf⟩ := h
  rw [cells_dev] at hsz
  obtain ⟨xs, n, _, _, _, hlen, hg⟩ := DataW.trod_struct Try.underlying27 hf
  match l, hsz with
  | [c0, c1, c2, c3, c4, c5, c6, c7, c8, c9], _ =>
    match xs, hlen with
    | [y0, y1, y2, y3, y4, y5, y6, y7], _ =>
      obtain ⟨size, rfl⟩ := open_int1 (v := c0) (by simpa [Value.cells, cells_int] using hg 0 _ rfl)
      obtain ⟨az, cz, zs, rfl, e1, e2, e3, e4, e5⟩ := open_zones (v := c1) (by simpa [Value.cells, cells_zones] using hg 1 _ rfl)
      obtain ⟨⟨n0, q0⟩, n1, q1⟩ := open_pair (v := c2) (u := c3) (by simpa [Value.cells, cells_pair] using hg 2 _ rfl)
      obtain ⟨⟨m0, q2⟩, m1, q3⟩ := open_pair (v := c4) (u := c5) (by simpa [Value.cells, cells_pair] using hg 3 _ rfl)
      obtain ⟨down, hd, _⟩ := DataW.trod_bool Try.underlying4 (by simpa [Value.cells, cells_bool] using hg 4 _ rfl)
      obtain ⟨left, rfl⟩ := open_int1 (v := c7) (by simpa [Value.cells, cells_int] using hg 5 _ rfl)
      obtain ⟨fault, rfl⟩ := open_int1 (v := c8) (by simpa [Value.cells, cells_int] using hg 6 _ rfl)
      obtain ⟨done, rfl⟩ := open_int1 (v := c9) (by simpa [Value.cells, cells_int] using hg 7 _ rfl)
      simp only [List.cons.injEq, and_true] at hd
      subst hd
      exact ⟨_, rfl, size, az, cz, zs, c2, c3, c4, c5, n0, n1, m0, m1, down, left, fault, done, ⟨rfl, q0, q1, q2, q3, e1, e2, e3, e4, e5⟩⟩
end
end Go.Proofs.Ytdiokmaomglefaa
