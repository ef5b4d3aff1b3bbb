/- A source that is wiped: the program's. -/
import Derived.Test.YtkllljgnpcmojaaSrc
import Derived.Lib.SliceRun
namespace Go.Proofs.Ytkllljgnpcmojaa
open Go Go.RowKit

theorem clone_any (a : Option Addr) (n cap : Nat) (l : List Key) (w : World) (h : Ks w (.slice a n cap) l) (hl : l.length ≤ 1000000) :
    Calls Try.prog 29 #[.slice a n cap] w fun e w' => (∃ v, e = .returned v ∧ w'.ownsRow w.heap.size 26 32 v l.length (kcs l)) ∧ Below w.heap.size w w' := by
  obtain ⟨rfl, hl1, hl2, hl3⟩ := h.len
  have hk := h
  obtain ⟨a', cap', e, h0, _, _, _, hc⟩ := h
  cases e
  cases a with
  | none =>
    obtain rfl := h0 rfl
    obtain rfl : l = [] := List.eq_nil_of_length_eq_zero (by omega)
    clear hk hc h0
    have q : ∀ w, (binOp .eql 22 (.slice none 0 0) (.slice none 0 0)).run Try.prog w = .ok (.bool true) w := fun w => Lib.run_eql_slice_nil w _ _ none 0 0 0 0 Try.underlying22
    go_enter Try.func29, Try.ntmps29
    go_wp2
    go_ret
    exact ⟨⟨_, rfl, World.ownsRow_nil _ _ _ _⟩, Below.refl _ _⟩
  | some ad =>
    have hk0 := hk.below ((Below.refl _ w).alloc (Nat.le_refl _) (.cells #[] 26))
    have hown0 : (w.alloc (.cells #[] 26)).ownsRow w.heap.size 26 32 (.slice (some ⟨w.heap.size, 0, none⟩) 0 0) 0 [] := World.ownsRow_lit w #[] 0 (Nat.le_refl _) (by unfold maxLen; omega) rfl
    clear hk hc h0
    have q : ∀ w, (binOp .eql 22 (.slice (some ad) l.length cap) (.slice none 0 0)).run Try.prog w = .ok (.bool false) w := fun w => Lib.run_eql_slice_nil w _ _ (some ad) _ _ 0 0 Try.underlying22
    go_enter Try.func29, Try.ntmps29
    go_wp2_with (at_builtin; refine wpList_append_ks _ rfl (.tmp 5) (.tmp 6) rfl w.heap.size _ 0 [] rfl hown0 _ l rfl hk0 ?c1 ?c2 ?_)
    case c1 => omega
    case c2 => simp
    intro v3 w3 hown3 hg3 _
    go_wp2
    go_ret
    refine ⟨⟨_, rfl, by simpa using hown3⟩, ((Below.refl _ w).alloc (Nat.le_refl _) _).grown hg3 (by simp) (fun k hk => by cases hk; exact Nat.le_refl _)⟩

theorem kcs_zero (n : Nat) : kcs (List.replicate n k0) = List.replicate (n * 32) (.int .u8 0) := by
  induction n with
  | zero => rfl
  | succ n ih =>
    rw [List.replicate_succ, show kcs (k0 :: List.replicate n k0) = kc k0 ++ kcs (List.replicate n k0) from rfl, ih, show kc k0 = List.replicate 32 (.int .u8 0) by simp [kc, k0, bv], List.replicate_append_replicate]
    congr 1; omega
theorem rep_at (n j : Nat) (x : Value) (h : j < n) : (List.replicate n x).toArray[j]! = x := by simp [h]
theorem zeros_list (n : Nat) : (Builtin.zeroCells (kc k0).toArray n).toList = kcs (List.replicate n k0) := by
  rw [kcs_zero]
  unfold Builtin.zeroCells
  rw [kc_size]
  apply List.ext_getElem
  · simp
  · intro i h1 h2
    have hk : kc k0 = List.replicate 32 (.int .u8 0) := by simp [kc, k0, bv]
    simp only [Array.toList_map, List.getElem_map, List.getElem_replicate]
    have : ∀ j, j < 32 → (kc k0).toArray[j]! = .int .u8 0 := fun j hj => by rw [hk]; exact rep_at 32 j _ hj
    exact this _ (Nat.mod_lt _ (by decide))
theorem below_setCells {B : Nat} {a : World} {g : Nat} (hg : B ≤ g) : ∀ (vs : List Value) (o : Nat) (w : World), Below B a w → Below B a (w.setCells g o vs)
  | [], _, _, h => h
  | v :: r, o, _, h => below_setCells hg r (o + 1) _ (h.setCell (p := ⟨g, o, none⟩) hg v)
theorem size_setCells (g : Nat) : ∀ (vs : List Value) (o : Nat) (w : World), (w.setCells g o vs).heap.size = w.heap.size
  | [], _, _ => rfl
  | v :: r, o, w => (size_setCells g r (o + 1) _).trans (by simp [World.setCell])
theorem run_clear_keys (w : World) (ty : TypeId) (g t cap n : Nat) (cur : Array Value) (hg : w.heap[g]? = some (.cells cur 26 (0, 0))) (hs : cur.size = n * 32) (ht : t ≤ n) :
    (Builtin.clear_ #[22] ty #[.slice (some ⟨g, 0, none⟩) t cap]).run Try.prog w = .ok (.tuple #[]) (w.setCells g 0 (kcs (List.replicate t k0))) := by
  have hlen : (kcs (List.replicate t k0)).length = t * 32 := by rw [kcs_length, List.length_replicate]
  have hst := run_storeCells_cells (P := Try.prog) g 0 (kcs (List.replicate t k0)) 0 w (fun j hj => by rw [cell_of_block hg]; rw [hlen] at hj; simp; omega) (fun j _ => by simp [World.frozen?, hg]) (kcs_one _)
  simp only [Nat.add_zero] at hst
  cases t with
  | zero => simp [Builtin.clear_, run_underlying Try.underlying22, World.setCells, kcs]
  | succ m =>
    simp [Builtin.clear_, run_underlying Try.underlying22, Value.cells]
    rw [kc_zero, zeros_list, hst]
    rfl
/-- What is left of draws that are wiped. -/
def wiped (l : List Key) (u : Int) : List Key := List.replicate (un u l.length) k0 ++ l.drop (un u l.length)
theorem wiped_length (l : List Key) (u : Int) : (wiped l u).length = l.length := by
  have := un_le u l.length
  simp [wiped]; omega
theorem kept_cells {w : World} {B g cap : Nat} {l : List Key} {t : Nat} (h : w.ownsRow B 26 32 (.slice (some ⟨g, 0, none⟩) l.length cap) l.length (kcs l)) (ht : t ≤ l.length) (hl : l.length ≤ 140737488355328) :
    Ks (w.setCells g 0 (kcs (List.replicate t k0))) (.slice (some ⟨g, 0, none⟩) l.length cap) (List.replicate t k0 ++ l.drop t) := by
  have hk := own_ks h hl
  obtain ⟨hx, h2⟩ := h
  rcases h2 with ⟨e, _⟩ | ⟨g', cap', cur, e, hB, hh, hn, hcap, hsz, htk⟩
  · cases e
  · cases e
    have hlen : (kcs (List.replicate t k0)).length = t * 32 := by rw [kcs_length, List.length_replicate]
    have hsome : ∀ j, j < (kcs (List.replicate t k0)).length → (w.cell? ⟨g, 0 + j, none⟩).isSome = true := fun j hj => by rw [cell_of_block hh]; rw [hlen] at hj; simp; omega
    refine ⟨_, cap, by congr 1; simp; omega, (fun h => by cases h), by simp; omega, hcap, by simp; omega, fun _ => ⟨g, 0, rfl, by rw [size_setCells]; exact block_lt hh, fun j k hj i v hi => ?_⟩⟩
    have hi' : i < 32 := by
      rcases Nat.lt_or_ge i (kc k).length with h1 | h1
      · rwa [kc_length] at h1
      · rw [List.getElem?_eq_none h1] at hi; cases hi
    by_cases hjt : j < t
    · have hkk : k = k0 := by
        rw [List.getElem?_append_left (by simpa using hjt), List.getElem?_replicate, if_pos hjt] at hj
        exact (Option.some.inj hj).symm
      subst hkk
      have hin : j * 32 + i < (kcs (List.replicate t k0)).length := by rw [hlen]; omega
      rw [show (0 + j * 32 + i) = 0 + (j * 32 + i) by omega, World.cell?_setCells_in g _ 0 w hsome (j * 32 + i) hin]
      have := kcs_at (List.replicate t k0) j k0 i (by rw [List.getElem?_replicate, if_pos hjt]) hi'
      rw [List.getElem?_eq_getElem hin, hi] at this
      exact this
    · rw [World.cell?_setCells_out g _ 0 w _ (fun _ _ => Or.inr (by rw [hlen]; show 0 + t * 32 ≤ 0 + j * 32 + i; omega))]
      rw [List.getElem?_append_right (by simpa using hjt), List.length_replicate, List.getElem?_drop, show t + (j - t) = j by omega] at hj
      obtain ⟨b, off, e, _, hr⟩ := hk.at j k hj
      cases e
      exact hr i v hi
end Go.Proofs.Ytkllljgnpcmojaa
