/- Keys and sources laid into blocks; what the calls at the head of each statement of layer 8 give. -/
import Derived.Test.YtkllljgnpcmojaaTextP
import Derived.Test.YtkllljgnpcmojaaNextR
import Derived.Test.YtkllljgnpcmojaaNext
import Derived.Test.YtkllljgnpcmojaaAll
namespace Go.Proofs.Ytkllljgnpcmojaa
open Go Go.RowKit

/-- Two results are laid into two new blocks: a key and a source. -/
theorem two_new (w : World) (A Z : Obj) : ((w.alloc A).alloc Z).heap[w.heap.size]? = some A ∧ ((w.alloc A).alloc Z).heap[w.heap.size + 1]? = some Z := by
  obtain ⟨h1, h2, _, _⟩ := two_blocks (Below.refl _ ((w.alloc A).alloc Z))
  exact ⟨h1, h2⟩
theorem nx_awake1 : nx [] 0 = (k0, 0, 80) := by decide +kernel
theorem nx_awake2 : nx ((List.range 2).map nk) 0 = (nk 0, 1, 0) := by decide +kernel
theorem nx_awake3 : nx [nk 1, nk 1] 1 = (k0, 1, 80) := by decide +kernel

/-- The key of two results is laid into the first of two new blocks. -/
theorem wpList_lay_key {ops : Array Oper} {rest : List Oper} {op : Oper} {a : Act} {w : World} {Q : Exit → Act → World → Prop} (hgd : op.guard = none) (x y : Operand) (ho : op.op = .store 26 x y)
    (k : Key) (w1 : World) (zs : Array Value) (Y : Obj) (hw : w = (w1.alloc (.cells zs 26)).alloc Y) (hzs : zs.size = 32)
    (hx : a.eval x = .pointer (some ⟨w1.heap.size, 0, none⟩)) (hy : a.eval y = .agg (kc k).toArray)
    (h : ∀ w2 : World, w2.heap[w1.heap.size]? = some (.cells (kc k).toArray 26 (0, 0)) → w2.heap[w1.heap.size + 1]? = some Y → Below w1.heap.size w1 w2 → w2.heap.size = w1.heap.size + 2 → wpList Try.prog ops Q rest (a.put op.dst undef) w2) : wpList Try.prog ops Q (op :: rest) a w := by
  subst hw
  obtain ⟨h1, h2⟩ := two_new w1 (.cells zs 26) Y
  exact wpList_store_row hgd 26 x y ho w1.heap.size (kc k).toArray hx hy 26 zs h1 (by rw [kc_size]; exact info_key) (by rw [kc_size]; exact hzs) (all_oneCell_toArray (kc_one _))
    (h _ (setRow_heap _ _ _ _ _ _ h1) ((setRow_other _ _ _ _ (by omega)).trans h2) (below_setRow (((Below.refl _ w1).alloc (Nat.le_refl _) _).alloc (by simp) _) (Nat.le_refl _) _) (by simp))
/-- A source is laid into a block that is known whole. -/
theorem wpList_lay_src {ops : Array Oper} {rest : List Oper} {op : Oper} {a : Act} {w : World} {Q : Exit → Act → World → Prop} (hgd : op.guard = none) (x y : Operand) (ho : op.op = .store 24 x y)
    (g : Nat) (b : Option Addr) (n cap : Nat) (u : Int) (old : Array Value) (hg : w.heap[g]? = some (.cells old 24 (0, 0))) (hold : old.size = 2)
    (hx : a.eval x = .pointer (some ⟨g, 0, none⟩)) (hy : a.eval y = .agg #[.slice b n cap, .int .i64 u])
    (h : ∀ w2 : World, w2.heap[g]? = some (.cells #[.slice b n cap, .int .i64 u] 24 (0, 0)) → Below g w w2 → w2.heap.size = w.heap.size → wpList Try.prog ops Q rest (a.put op.dst undef) w2) : wpList Try.prog ops Q (op :: rest) a w :=
  wpList_store_row hgd 24 x y ho g #[.slice b n cap, .int .i64 u] hx hy 24 old hg info_src hold (src_one _ _ _ _)
    (h _ (setRow_heap _ _ _ _ _ _ hg) (below_setRow (Below.refl _ _) (Nat.le_refl _) _) (by simp))

theorem fold_off (off : Nat) (xs : List Value) : ∀ (i : Nat) (zs : Array Value), off + i + xs.length ≤ zs.size → (xs.zipIdx i).foldl (fun cs (x : Value × Nat) => cs.setIfInBounds (off + x.2) x.1) zs = (zs.toList.take (off + i) ++ xs ++ zs.toList.drop (off + i + xs.length)).toArray := by
  induction xs with
  | nil => intro i zs h; simp
  | cons x xs ih =>
    intro i zs h
    simp only [List.length_cons] at h
    rw [List.zipIdx_cons, List.foldl_cons, ih (i + 1) _ (by simp; omega)]
    congr 1
    have hi : off + i < zs.toList.length := by simp; omega
    simp only [Array.toList_setIfInBounds, List.length_cons]
    rw [show off + (i + 1) = off + i + 1 by omega, show off + i + 1 + xs.length = off + i + (xs.length + 1) by omega]
    rw [List.drop_set, if_pos (by omega), List.take_set, List.take_succ_eq_append_getElem hi, List.set_append_right _ _ (by simp; omega)]
    simp
    rw [show off + i - min (off + i) zs.size = 0 by have : off + i ≤ zs.size := by omega
                                                    omega]
    rfl
theorem fold_two (a b : Key) (zs : Array Value) (hz : zs.size = 64) :
    List.foldl (fun cs (x : Value × Nat) => cs.setIfInBounds (32 + x.2) x.1) (List.foldl (fun cs (x : Value × Nat) => cs.setIfInBounds x.2 x.1) zs (kc a).zipIdx) (kc b).zipIdx = (kcs [a, b]).toArray := by
  have h1 := fold_off 0 (kc a) 0 zs (by rw [kc_length, hz]; decide)
  simp only [Nat.zero_add] at h1
  rw [h1, fold_off 32 (kc b) 0 _ (by simp [kc_length, hz])]
  simp [kcs, kc_length, hz]
theorem scan_awake1 : scan (-1) (dtext [nk 3, nk 4]) = some ((nk 3).1 ++ (nk 4).1) := by decide +kernel
theorem chunks_awake : chunks ((nk 3).1 ++ (nk 4).1) (((nk 3).1 ++ (nk 4).1).length / 32) = [nk 3, nk 4] := by decide +kernel
theorem len_awake : ((nk 3).1 ++ (nk 4).1).length % 32 = 0 := by decide +kernel
theorem scan_awake2 : scan (-1) [48, 48] = some [0] := by decide +kernel
theorem wiped_awake : wiped ((List.range 2).map nk) 1 = [k0, nk 1] := by decide +kernel
end Go.Proofs.Ytkllljgnpcmojaa
