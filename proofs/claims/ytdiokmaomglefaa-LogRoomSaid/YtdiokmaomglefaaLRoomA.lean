/- What came in for LogRoom: a device at the world it came in, and bytes. -/
import Derived.Test.YtdiokmaomglefaaLNextW
import Derived.Test.YtdiokmaomglefaaLSame
namespace Go.Proofs.Ytdiokmaomglefaa
open Go Go.RowKit

theorem RawD.below {w w' : World} {cs : List Value} {size : Int} {az : Option Addr} {cz : Nat} {zs : List RawZ} {r0 r1 f0 f1 : Value} {n0 n1 m0 m1 : Nat} {down : Bool} {left fault done : Int}
    (h : RawD w cs size az cz zs r0 r1 f0 f1 n0 n1 m0 m1 down left fault done) (hb : Below w.heap.size w w') : RawD w' cs size az cz zs r0 r1 f0 f1 n0 n1 m0 m1 down left fault done := by
  obtain ⟨e, q0, q1, q2, q3, hcap, hle, hmax, hblk, hrow⟩ := h
  refine ⟨e, q0.below hb, q1.below hb, q2.below hb, q3.below hb, hcap, hle, hmax, fun hne => ?_, fun b off ea j z hz => ?_⟩
  · obtain ⟨b, off, ea, hlt⟩ := hblk hne
    exact ⟨b, off, ea, Nat.lt_of_lt_of_le hlt hb.size⟩
  · obtain ⟨h1, h2⟩ := hrow b off ea j z hz
    obtain ⟨b', off', ea', hlt⟩ := hblk (by rintro rfl; simp at hz)
    rw [ea] at ea'
    cases ea'
    exact ⟨h1.below hb, range_below h2 hb hlt⟩
/-- Small, in a later world: the device is read in the world where it came in. -/
theorem smallw_any {w w1 : World} {cs : List Value} (h : RawDev w cs) (hb : Below w.heap.size w w1) :
    Calls Try.prog 14 #[.agg cs.toArray] w1 fun e w' => (∃ b, e = .returned (.bool b) ∧ (b = true → ∃ d : Dv, DvIs w cs d ∧ d.zs.length ≤ 70 ∧ ∀ z ∈ d.zs, z.data.length ≤ 300)) ∧ Below w1.heap.size w1 w' := by
  obtain ⟨size, az, cz, zs, r0, r1, f0, f1, n0, n1, m0, m1, down, left, fault, done, h⟩ := h
  refine (small_any (h.below hb)).mono ?_
  rintro e w' ⟨⟨b, he, hbb⟩, hbe⟩
  refine ⟨⟨b, he, fun hbt => ?_⟩, hbe⟩
  obtain ⟨h1, h2, h3, h4, h5, h6⟩ := hbb hbt
  obtain ⟨d, hd, hl, hz, _⟩ := h.is h2 h3 h4 h5 h6
  exact ⟨d, hd, by omega, hz⟩
section
variable {H : Type} {enc : TypeId × Value → H} {w : World} {base : Nat} {held : Bool}
set_option maxRecDepth 100000 in
/-- Bytes that came in. -/
theorem open_bytes {r : Reach} {b0 : Nat} {v : Value} {d : DataW H} {p : List MemPlace} (hv : Value.okWide Try.prog w r b0 24 v) (h : DataW.Trod enc Try.prog w base (fun _ => true) held 24 v d p) : ∃ n, RawB w v n := by
  obtain ⟨a, len, cap, rfl⟩ := Go.WideShapes.okWide_slice Try.underlying24 hv
  obtain ⟨fuel, hf⟩ := h
  exact open_rawb (by simpa [Value.cells] using hf)
end
/-- Two texts, one behind the other. -/
theorem bytes_append (l m : List UInt8) : (⟨l.toArray⟩ : ByteArray) ++ ⟨m.toArray⟩ = ⟨(l ++ m).toArray⟩ := by
  apply ByteArray.ext
  simp [ByteArray.data_append]
set_option maxRecDepth 100000 in
theorem string_add (l m : List UInt8) (w : World) (hl : l.length ≤ 300) (hm : m.length ≤ 300) : (binOp .add 9 (.string ⟨l.toArray⟩) (.string ⟨m.toArray⟩)).run Try.prog w = .ok (.string ⟨(l ++ m).toArray⟩) w := by
  simp [binOp, go_sem, bytes_append]
  omega
end Go.Proofs.Ytdiokmaomglefaa
