/- The draws that a text is: the program's. -/
import Derived.Test.YtkllljgnpcmojaaSource
namespace Go.Proofs.Ytkllljgnpcmojaa
open Go Go.RowKit

/-- The key of the first thirty-two of bytes. -/
def mkKey (l : List UInt8) : Key := ⟨(l ++ List.replicate 32 0).take 32, by simp⟩
theorem mkKey_val (l : List UInt8) (h : 32 ≤ l.length) : (mkKey l).1 = l.take 32 := by
  unfold mkKey
  simp only
  rw [List.take_append_of_le_length h]
/-- So many keys of bytes. -/
def chunks (b : List UInt8) (m : Nat) : List Key := (List.range m).map fun i => mkKey (b.drop (32 * i))
theorem chunks_length (b : List UInt8) (m : Nat) : (chunks b m).length = m := by simp [chunks]
theorem chunks_succ (b : List UInt8) (m : Nat) : chunks b (m + 1) = chunks b m ++ [mkKey (b.drop (32 * m))] := by simp [chunks, List.range_succ]
/-- What a reading of draws gives, by what the bytes are. -/
def KReads (o : Option (List UInt8)) (e : Ending) (w' : World) : Prop :=
  (o = none ∧ e = .returned (.tuple #[.slice none 0 0, .int .i64 20])) ∨
  (∃ b, o = some b ∧ b.length % 32 ≠ 0 ∧ e = .returned (.tuple #[.slice none 0 0, .int .i64 80])) ∨
  (∃ b v, o = some b ∧ b.length % 32 = 0 ∧ e = .returned (.tuple #[v, .int .i64 0]) ∧ Ks w' v (chunks b (b.length / 32)))
/-- The cells of the key at a place of bytes. -/
theorem key_range {w : World} {g o n cap : Nat} {b : List UInt8} {B : Nat} (h : w.ownsRow B 5 1 (.slice (some ⟨g, 0, none⟩) n cap) b.length (b.map bv)) (hlen : o + 32 ≤ b.length) : w.rangeAt g o (kc (mkKey (b.drop o))) := by
  intro j v hj
  have hj32 : j < 32 := by
    rcases Nat.lt_or_ge j (kc (mkKey (b.drop o))).length with h1 | h1
    · rwa [kc_length] at h1
    · rw [List.getElem?_eq_none h1] at hj; cases hj
  have hv : (b.map bv)[o + j]? = some v := by
    unfold kc at hj
    rw [mkKey_val _ (by simp; omega)] at hj
    simpa [List.getElem?_take, hj32, List.getElem?_drop] using hj
  have hc := h.cells (g := g) (by cases h.2 with | inl h => exact absurd h.1 (by simp) | inr h => obtain ⟨_, _, _, e, _⟩ := h; rfl) (o + j) v hv
  rwa [Addr.add_mid, Nat.zero_add] at hc

/-- The length that a slice in a slot has. -/
def lenOf : Value → Nat | .slice _ n _ => n | _ => 0
set_option maxRecDepth 100000 in
set_option maxHeartbeats 2000000 in
theorem read_any (s : ByteArray) (w : World) (hs : s.size ≤ 1000000) :
    Calls Try.prog 11 #[.string s] w fun e w' => KReads (scan (-1) s.data.toList) e w' ∧ Below w.heap.size w w' := by
  obtain ⟨o, ho⟩ : ∃ o, scan (-1) s.data.toList = o := ⟨_, rfl⟩
  rw [ho]
  have HO := Lib.hid ho
  go_enter Try.func11, Try.ntmps11
  go_wp2_with fail
  refine (bytes_any s _ (by omega)).mono ?_
  rintro e w1 ⟨hr, hb1⟩
  rw [ho] at hr
  clear ho
  rcases hr with ⟨b, v, rfl, rfl, hown⟩ | ⟨rfl, rfl⟩
  · have hbl : b.length ≤ 1000000 := by
      have h1 := scan_len _ _ _ HO.out
      have h2 : s.data.toList.length = s.size := rfl
      omega
    clear HO
    have hform := hown.2
    by_cases h32 : b.length % 32 = 0
    · have g1 : (((b.length : Int) % 32) != 0) = false := bne_eq_false_iff_eq.2 (by omega)
      rcases hform with ⟨rfl, h0⟩ | ⟨g, cp, cur, rfl, hgB, hh, hcn, hcm, _, _⟩
      · obtain rfl : b = [] := List.eq_nil_of_length_eq_zero h0
        have HK : Hid (KReads (some ([] : List UInt8)) (.returned (.tuple #[.slice none 0 0, .int .i64 0])) w1) := Or.inr (Or.inr ⟨[], _, rfl, rfl, rfl, ks_nil _⟩)
        clear hown
        go_wp2_with fail
        go_loopw [2, 4] (fun v2 x wr => v2 = .slice none 0 0 ∧ x = .slice none 0 0 ∧ wr = w1) (fun _ _ _ => 0)
        case atStart => exact ⟨rfl, rfl, rfl⟩
        case round =>
          obtain ⟨rfl, rfl, rfl⟩ := hrel
          go_wp2
          go_ret2
          exact ⟨HK.out, hb1⟩
      · obtain ⟨m, hm⟩ : ∃ m, b.length = 32 * m := ⟨b.length / 32, by omega⟩
        have hs1 := hb1.size
        have hlt := block_lt hh
        have HM := Lib.hid hm
        have Hown := Lib.hid hown
        clear hown hh hm
        go_wp2_with fail
        go_loopw [2, 4] (fun v2 x wr => ∃ (i o r q : Nat) (a : Option Addr), i ≤ m ∧ o = 32 * i ∧ r + o = b.length ∧ r ≤ q ∧ q ≤ maxLen ∧ x = .slice a r q ∧ (0 < r → a = some ⟨g, o, none⟩) ∧ wr.ownsRow w1.heap.size 26 32 v2 i (kcs (chunks b i)) ∧ Below w1.heap.size w1 wr) (fun _ x _ => lenOf x)
        case atStart => exact ⟨0, 0, b.length, cp, _, by omega, rfl, by omega, hcn, hcm, rfl, fun _ => rfl, World.ownsRow_nil _ _ _ _, Below.refl _ _⟩
        case round =>
          obtain ⟨i, o, r, q, a, hi, ho, hr, hrq, hqm, rfl, har, hown2, hbr⟩ := hrel
          have hm := HM.out
          by_cases hlt2 : i < m
          · obtain rfl := har (by omega)
            clear har
            have i5 : i ≤ 1000000 := by omega
            have i1 : (0 : Int) < (r : Int) := by omega
            have i2 : (32 : Int) ≤ (r : Int) := by omega
            have i3 : (32 : Int) ≤ (q : Int) := by omega
            have i4 : (r : Int) ≤ (q : Int) := by omega
            have hrg : wr.rangeAt g o (kc (mkKey (b.drop o))) := range_below (key_range Hown.out (by omega)) hbr hlt
            have hk32 := kc_length (mkKey (b.drop o))
            have hat : (Instr.arrayAt 26 (.slice (some ⟨g, o, none⟩) 32 32)).run Try.prog wr = .ok (.pointer (some ⟨g, o, none⟩)) wr := by
              simp [Instr.arrayAt, run_underlying Try.underlying26]
            have Hr := Lib.hid hr
            have Ho := Lib.hid ho
            have Hm := Lib.hid hm
            clear hr ho hm
            go_wp2_with (first
              | (refine wpList_load_at (by rfl) 26 _ rfl g o rfl (kc (mkKey (b.drop o))) _ hrg Try.underlying26 rfl (key_info _) ?_)
              | (at_builtin
                 rw [fold_key (mkKey (b.drop o)) _ rfl]
                 have hownA := owns_below hown2 ((Below.refl _ wr).alloc (Nat.le_refl _) (.cells (kc (mkKey (b.drop o))).toArray 26))
                 have hksA := key_slice wr (mkKey (b.drop o))
                 refine wpList_append_ks _ rfl (.tmp 22) (.tmp 27) rfl w1.heap.size _ i _ rfl hownA _ [mkKey (b.drop o)] rfl hksA (by simp; omega) (by have := hbr.size; simp; omega) ?_
                 intro v8 w8 hown8 hg8 _
                 have hb8 : Below w1.heap.size w1 w8 := (hbr.alloc hbr.size _).grown hg8 (by have := hbr.size; simp; omega) (fun k hk => (hownA.lt k hk).1)
                 clear hownA hksA hg8))
            go_roundw
            case rel =>
              have hr := Hr.out
              have ho := Ho.out
              have hm := Hm.out
              refine ⟨i + 1, o + 32, r - 32, q - 32, _, by omega, by omega, by omega, by omega, by omega, rfl, fun h => ?_, ?_, hb8⟩
              · rw [if_neg (by omega)]
              · rw [chunks_succ, kcs_append, ← ho]
                exact hown8
            case measure => show r - 32 < r; omega
          · obtain rfl : i = m := by omega
            obtain rfl : r = 0 := by omega
            have hks := own_ks (l := chunks b i) (by rw [chunks_length]; exact hown2) (by rw [chunks_length]; omega)
            have HK : Hid (KReads (some b) (.returned (.tuple #[u2, .int .i64 0])) wr) := Or.inr (Or.inr ⟨b, _, rfl, h32, rfl, by rw [show b.length / 32 = i by omega]; exact hks⟩)
            clear hr ho hm har hks
            go_wp2
            go_ret2
            exact ⟨HK.out, hb1.trans (hbr.mono hs1)⟩
    · have g1 : (((b.length : Int) % 32) != 0) = true := bne_iff_ne.2 (by omega)
      have HK : Hid (KReads (some b) (.returned (.tuple #[.slice none 0 0, .int .i64 80])) w1) := Or.inr (Or.inl ⟨b, rfl, h32, rfl⟩)
      rcases hform with ⟨rfl, h0⟩ | ⟨g, cp, cur, rfl, hgB, hh, hcn, hcm, _, _⟩
      · exact absurd h0 (by omega)
      · clear hown hh
        go_wp2
        go_ret2
        exact ⟨HK.out, hb1⟩
  · go_wp2
    go_ret2
    exact ⟨Or.inl ⟨rfl, rfl⟩, hb1⟩
end Go.Proofs.Ytkllljgnpcmojaa
