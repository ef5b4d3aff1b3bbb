/- Keys: arrays of thirty-two bytes by value; slices of them; '==' of two. -/
import Derived.Test.YtkllljgnpcmojaaLib
import Derived.Test.YtkllljgnpcmojaaMore
import Derived.Stop.BytesEq
import Derived.Deep.MidRow
namespace Go.Proofs.Ytkllljgnpcmojaa
open Go Go.RowKit

/-- A key: thirty-two bytes. -/
abbrev Key := { l : List UInt8 // l.length = 32 }
instance : Inhabited Key := ⟨⟨List.replicate 32 0, by simp⟩⟩
/-- Its cells. -/
def kc (k : Key) : List Value := k.1.map bv
theorem kc_length (k : Key) : (kc k).length = 32 := by simp [kc, k.2]
theorem kc_size (k : Key) : (kc k).toArray.size = 32 := by simp [kc_length]
theorem kc_one (k : Key) : ∀ v ∈ kc k, v.oneCell' = true := by
  intro v hv
  simp only [kc, List.mem_map] at hv
  obtain ⟨x, _, rfl⟩ := hv
  rfl
/-- The key that is none. -/
def k0 : Key := ⟨List.replicate 32 0, by simp⟩
theorem kc_zero : #[Value.int .u8 0, .int .u8 0, .int .u8 0, .int .u8 0, .int .u8 0, .int .u8 0, .int .u8 0, .int .u8 0, .int .u8 0, .int .u8 0, .int .u8 0, .int .u8 0, .int .u8 0, .int .u8 0, .int .u8 0, .int .u8 0, .int .u8 0, .int .u8 0, .int .u8 0, .int .u8 0, .int .u8 0, .int .u8 0, .int .u8 0, .int .u8 0, .int .u8 0, .int .u8 0, .int .u8 0, .int .u8 0, .int .u8 0, .int .u8 0, .int .u8 0, .int .u8 0] = (kc k0).toArray := by
  simp [kc, k0, bv, List.replicate]
theorem zero_key (w : World) : (zeroValue 26).run Try.prog w = .ok (.agg (kc k0).toArray) w := by
  rw [Try.zeroValue26, kc_zero]
theorem kc_inj {a b : Key} (h : kc a = kc b) : a = b := by
  apply Subtype.ext
  have : ∀ x y : UInt8, bv x = bv y → x = y := fun x y e => by
    simp only [bv, Value.int.injEq, true_and, Int.natCast_inj] at e
    exact UInt8.toNat_inj.1 e
  exact List.map_inj_right (fun x y e => this x y e) |>.1 h
theorem info_key : (Try.prog.info? 26).map (·.size) = some 32 := by kernel_rfl
theorem key_eq (a b : Key) (w : World) : (binOp .eql 26 (.agg (kc a).toArray) (.agg (kc b).toArray)).run Try.prog w = .ok (.bool (a == b)) w := by
  have h := run_eql_bytes (P := Try.prog) w 26 5 32 Try.underlying26 Try.underlying5 Try.sizeOf5 a.1 b.1 a.2 b.2
  have e : (a.1 == b.1) = (a == b) := by
    rw [Bool.eq_iff_iff]; simp
  rw [e] at h
  exact h
theorem key_ne (a b : Key) (w : World) : (binOp .neq 26 (.agg (kc a).toArray) (.agg (kc b).toArray)).run Try.prog w = .ok (.bool (a != b)) w := by
  have h := run_equalIn_bytes (P := Try.prog) w 9998 26 5 32 Try.underlying26 Try.underlying5 Try.sizeOf5 a.1 b.1 a.2 b.2
  have e : (a.1 == b.1) = (a == b) := by
    rw [Bool.eq_iff_iff]; simp
  rw [e] at h
  have h' : (Op.equalIn (9998 + 2) 26 (.agg (kc a).toArray) (.agg (kc b).toArray)).run Try.prog w = .ok (a == b) w := h
  rw [run_neq_struct, h']
  rfl
theorem key_eq_is (a b : Key) (c : Bool) (h : (a == b) = c) (w : World) : (binOp .eql 26 (.agg (kc a).toArray) (.agg (kc b).toArray)).run Try.prog w = .ok (.bool c) w := by rw [key_eq, h]
theorem key_ne_is (a b : Key) (c : Bool) (h : (a != b) = c) (w : World) : (binOp .neq 26 (.agg (kc a).toArray) (.agg (kc b).toArray)).run Try.prog w = .ok (.bool c) w := by rw [key_ne, h]
/-- A slice value that reads, in a world, as a list of keys. -/
def Ks (w : World) (v : Value) (l : List Key) : Prop :=
  ∃ (a : Option Addr) (cap : Nat), v = .slice a l.length cap ∧ (a = none → cap = 0) ∧ l.length ≤ cap ∧ cap ≤ maxLen ∧ l.length ≤ 140737488355328 ∧ (l ≠ [] → ∃ b off, a = some ⟨b, off, none⟩ ∧ b < w.heap.size ∧ ∀ j k, l[j]? = some k → w.rangeAt b (off + j * 32) (kc k))
theorem Ks.below {w w' : World} {v : Value} {l : List Key} (h : Ks w v l) (hb : Below w.heap.size w w') : Ks w' v l := by
  obtain ⟨a, cap, hv, h0, hl, hl2, hl3, hc⟩ := h
  refine ⟨a, cap, hv, h0, hl, hl2, hl3, fun hne => ?_⟩
  obtain ⟨b, off, ha, hlt, hcell⟩ := hc hne
  exact ⟨b, off, ha, Nat.lt_of_lt_of_le hlt hb.size, fun j k hj i v hi => (hb.cell (p := ⟨b, off + j * 32 + i, none⟩) hlt).trans (hcell j k hj i v hi)⟩

theorem clean_any (k : Key) (w : World) : Calls Try.prog 21 #[.agg (kc k).toArray] w fun e w' => e = .returned (.bool (k == k0)) ∧ Below w.heap.size w w' := by
  have hz := zero_key
  have hk := key_eq
  have hg := heap_alloc_new w (.cells (kc k).toArray 26)
  have hs := kc_size k
  have hi := info_key
  go_enter Try.func21, Try.ntmps21
  go_wp2_with (refine wpList_load_row rfl 26 _ rfl w.heap.size rfl 26 _ (0, 0) _ hg Try.underlying26 rfl (by rw [kc_size]; exact info_key) ?_)
  go_ret
  exact ⟨rfl, (Below.refl _ w).alloc (Nat.le_refl _) _⟩
end Go.Proofs.Ytkllljgnpcmojaa
