/- A source that is wiped: the reference's. -/
import Derived.Test.YtkllljgnpcmojaaWipe2
namespace Go.Proofs.Ytkllljgnpcmojaa
open Go Go.RowKit

theorem boxed_row {wr w5 : World} {zs : Array Value} {c : Array Value} {t : TypeId} (h : (wr.alloc (.cells zs t)).setRow wr.heap.size c = w5) :
    w5.heap[wr.heap.size]? = some (.cells c t (0, 0)) ∧ Below wr.heap.size wr w5 ∧ w5.heap.size = wr.heap.size + 1 := by
  subst h
  exact ⟨setRow_heap _ _ _ _ _ _ (heap_alloc_new wr _), below_setRow ((Below.refl _ wr).alloc (Nat.le_refl _) _) (Nat.le_refl _) _, by simp⟩
/-- A key is stored into a block that is new: from there on the block is known whole. -/
theorem wpList_store_new {ops : Array Oper} {rest : List Oper} {op : Oper} {a : Act} {w : World} {Q : Exit → Act → World → Prop} (hgd : op.guard = none) (x y : Operand) (ho : op.op = .store 26 x y)
    (k : Key) (wr : World) (zs : Array Value) (hw : w = wr.alloc (.cells zs 26)) (hzs : zs.size = 32)
    (hx : a.eval x = .pointer (some ⟨wr.heap.size, 0, none⟩)) (hy : a.eval y = .agg (kc k).toArray)
    (h : ∀ w5 : World, w5.heap[wr.heap.size]? = some (.cells (kc k).toArray 26 (0, 0)) → Below wr.heap.size wr w5 → w5.heap.size = wr.heap.size + 1 → wpList Try.prog ops Q rest (a.put op.dst undef) w5) : wpList Try.prog ops Q (op :: rest) a w := by
  subst hw
  obtain ⟨h1, h2, h3⟩ := boxed_row (wr := wr) (zs := zs) (c := (kc k).toArray) (t := 26) rfl
  exact wpList_store_row hgd 26 x y ho wr.heap.size (kc k).toArray hx hy 26 zs (heap_alloc_new wr _) (by rw [kc_size]; exact info_key) (by rw [kc_size]; exact hzs) (all_oneCell_toArray (kc_one _)) (h _ h1 h2 h3)
/-- A key is stored into a block that is known whole. -/
theorem wpList_store_known {ops : Array Oper} {rest : List Oper} {op : Oper} {a : Act} {w : World} {Q : Exit → Act → World → Prop} (hgd : op.guard = none) (x y : Operand) (ho : op.op = .store 26 x y)
    (k : Key) (g : Nat) (k' : Key) (hg : w.heap[g]? = some (.cells (kc k').toArray 26 (0, 0)))
    (hx : a.eval x = .pointer (some ⟨g, 0, none⟩)) (hy : a.eval y = .agg (kc k).toArray)
    (h : ∀ w5 : World, w5.heap[g]? = some (.cells (kc k).toArray 26 (0, 0)) → Below g w w5 → w5.heap.size = w.heap.size → wpList Try.prog ops Q rest (a.put op.dst undef) w5) : wpList Try.prog ops Q (op :: rest) a w :=
  wpList_store_row hgd 26 x y ho g (kc k).toArray hx hy 26 _ hg (by rw [kc_size]; exact info_key) (by simp only [kc_size]) (all_oneCell_toArray (kc_one _)) (h _ (setRow_heap _ _ _ _ _ _ hg) (below_setRow (Below.refl _ _) (Nat.le_refl _) _) (by simp))
theorem wiped_take {l : List Key} {u : Int} {j : Nat} {y : Key} (hj : l[j]? = some y) :
    (wiped l u).take (j + 1) = (wiped l u).take j ++ [if j < un u l.length then k0 else y] := by
  have hlt : j < l.length := by
    rcases Nat.lt_or_ge j l.length with h | h
    · exact h
    · rw [List.getElem?_eq_none h] at hj; cases hj
  have hlt2 : j < (wiped l u).length := by rw [wiped_length]; exact hlt
  rw [take_snoc _ _ hlt2]
  congr 2
  have e : (wiped l u)[j]? = some (if j < un u l.length then k0 else y) := by
    unfold wiped
    by_cases h : j < un u l.length
    · rw [if_pos h, List.getElem?_append_left (by simpa using h), List.getElem?_replicate, if_pos h]
    · rw [if_neg h, List.getElem?_append_right (by simpa using h), List.length_replicate, List.getElem?_drop, show un u l.length + (j - un u l.length) = j by omega, hj]
  rw [List.getElem?_eq_getElem hlt2] at e
  exact Option.some.inj e

theorem fold_cells (xs : List Value) : ∀ (i : Nat) (zs : Array Value), i + xs.length = zs.size → (xs.zipIdx i).foldl (fun cs x => cs.setIfInBounds x.2 x.1) zs = (zs.toList.take i ++ xs).toArray := by
  induction xs with
  | nil => intro i zs h; simp only [List.zipIdx_nil, List.foldl_nil, List.append_nil]; rw [List.take_of_length_le (by simp at h ⊢; omega)]
  | cons x xs ih =>
    intro i zs h
    simp only [List.length_cons] at h
    rw [List.zipIdx_cons, List.foldl_cons, ih (i + 1) _ (by simp; omega)]
    congr 1
    have hi : i < zs.toList.length := by simp; omega
    simp only [Array.toList_setIfInBounds]
    rw [show (zs.toList.set i x).take (i + 1) = zs.toList.take i ++ [x] by rw [List.take_set, List.take_succ_eq_append_getElem hi, List.set_append_right _ _ (by simp; omega)]; simp; rw [show i - min i zs.size = 0 by omega]; rfl]
    simp
theorem fold_key (k : Key) (zs : Array Value) (hz : zs.size = 32) : List.foldl (fun cs (x : Value × Nat) => cs.setIfInBounds x.2 x.1) zs (kc k).zipIdx = (kc k).toArray := by
  rw [fold_cells (kc k) 0 zs (by rw [kc_length, hz])]
  simp
theorem key_slice (w : World) (k : Key) : Ks (w.alloc (.cells (kc k).toArray 26)) (.slice (some ⟨w.heap.size, 0, none⟩) 1 1) [k] := by
  have := ks_alloc w [k] (by simp)
  rwa [kcs_single] at this
set_option maxRecDepth 100000 in
set_option maxHeartbeats 2000000 in
theorem refwipe_any (a : Option Addr) (n cap : Nat) (l : List Key) (u : Int) (w : World) (h : Ks w (.slice a n cap) l) (hl : l.length ≤ 1000000) :
    Calls Try.prog 15 #[.agg #[.slice a n cap, .int .i64 u]] w fun e w' => (∃ v, e = .returned (.agg #[v, .int .i64 u]) ∧ Ks w' v (wiped l u)) ∧ Below w.heap.size w w' := by
  obtain ⟨rfl, hl1, hl2, hl3⟩ := h.len
  have hun := un_le u l.length
  have hb0 : Below w.heap.size w ((w.alloc (.cells #[.slice a l.length cap, .int .i64 u] 24)).alloc (.cells #[.slice none 0 0, .int .i64 0] 24)) := ((Below.refl _ w).alloc (Nat.le_refl _) _).alloc (by simp) _
  obtain ⟨hA, hY, _, _⟩ := two_blocks (Below.refl _ ((w.alloc (.cells #[.slice a l.length cap, .int .i64 u] 24)).alloc (.cells #[.slice none 0 0, .int .i64 0] 24)))
  have hsz : ((w.alloc (.cells #[.slice a l.length cap, .int .i64 u] 24)).alloc (.cells #[.slice none 0 0, .int .i64 0] 24)).heap.size = w.heap.size + 2 := by simp
  go_enter Try.func15, Try.ntmps15
  go_wp2_with fail
  obtain ⟨B, hB⟩ : ∃ B, w.heap.size = B := ⟨_, rfl⟩
  rw [hB] at hA hY hb0 hsz
  rw [hB]
  obtain ⟨W, hW⟩ : ∃ W, (w.alloc (.cells #[.slice a l.length cap, .int .i64 u] 24)).alloc (.cells #[.slice none 0 0, .int .i64 0] 24) = W := ⟨_, rfl⟩
  rw [hW] at hA hY hb0 hsz
  rw [hW]
  have HB := Lib.hid hB
  have HK := Lib.hid h
  clear hB hW h
  go_loopw [3, 4] (fun v i wr => ∃ j : Nat, j ≤ l.length ∧ i = .int .i64 j ∧ wr.ownsRow (B + 2) 26 32 v j (kcs ((wiped l u).take j)) ∧ Below (B + 2) W wr) (fun _ i _ => l.length - (intOf i).toNat)
  case atStart => exact ⟨0, by omega, rfl, World.ownsRow_nil _ _ _ _, Below.refl _ _⟩
  case round =>
    obtain ⟨j, hj, rfl, hown, hbw⟩ := hrel
    have hA1 := (hbw.block B (by omega)).trans hA
    have hY1 := (hbw.block (B + 1) (by omega)).trans hY
    have hsw := hbw.size
    have d0 : wr.cell? ⟨B, 0, none⟩ = some (.slice a l.length cap) := (cell_of_block hA1 0).trans rfl
    by_cases hlt : j < l.length
    · obtain ⟨y, hy⟩ : ∃ y, l[j]? = some y := ⟨_, List.getElem?_eq_getElem hlt⟩
      obtain ⟨b, off, rfl, hb, hry⟩ := HK.out.at j y hy
      have hB' := HB.out
      have hr1 : wr.rangeAt b (off + j * 32) (kc y) := range_below (range_below hry (HB.out ▸ hb0) hb) ((hbw.mono (by omega)) : Below W.heap.size W wr) (by omega)
      have hWT := Lib.hid (wiped_take (u := u) hy)
      have i1 : (0 : Int) ≤ (j : Int) := by omega
      have i2 : (j : Int) < (l.length : Int) := by omega
      clear hy hry hB'
      go_wp2_with (first
        | (refine wpList_load_at (by rfl) 26 _ rfl b (off + j * 32) rfl (kc y) _ hr1 Try.underlying26 rfl (key_info y) ?_)
        | ((refine wpList_store_new rfl _ _ rfl y wr _ rfl rfl rfl rfl ?_); intro w5 hD hb5 hs5; have e0 : w5.cell? ⟨B, 0, none⟩ = some (.slice (some ⟨b, off, none⟩) l.length cap) := (hb5.cell (p := ⟨B, 0, none⟩) (by show B < _; omega)).trans d0; have e1 : w5.cell? ⟨B, 1, none⟩ = some (.int .i64 u) := (hb5.cell (p := ⟨B, 1, none⟩) (by show B < _; omega)).trans ((cell_of_block hA1 1).trans rfl)))
      refine (refused_any _ _ _ _ _).mono ?_
      rintro e w6 ⟨rfl, hb6⟩
      have hD6 := (hb6.block _ (block_lt hD)).trans hD
      have hb16 : Below wr.heap.size wr w6 := hb5.trans (hb6.mono (by omega))
      have hs6 := hb6.size
      clear e0 e1 hD hb5 hb6 d0 hr1
      by_cases hju : j < un u l.length
      · have g1 : (j : Int) < (un u l.length : Int) := by omega
        rw [if_pos hju] at hWT
        go_wp2_with (first
          | ((refine wpList_store_known (by rfl) _ _ (by rfl) k0 wr.heap.size _ hD6 (by rfl) (by exact congrArg Value.agg kc_zero) ?_); intro w7 hD7 hb7 hs7; have Hs7 := Lib.hid hs7; clear hs7)
          | (refine wpList_load_at (by rfl) 26 _ rfl wr.heap.size 0 rfl (kc k0) _ (range_of_block hD7) Try.underlying26 rfl (key_info k0) ?_)
          | (at_builtin
             have hs17 : wr.heap.size ≤ w7.heap.size := by rw [Hs7.out]; omega
             have hb17 : Below wr.heap.size wr w7 := hb16.trans hb7
             have hownA := owns_below hown (hb17.alloc hs17 (.cells (kc k0).toArray 26))
             have hksA := key_slice w7 k0
             refine wpList_append_ks _ rfl (.tmp 23) (.tmp 25) rfl (B + 2) _ j _ rfl hownA _ [k0] rfl hksA (by simp; omega) (by simp; omega) ?_
             intro v8 w8 hown8 hg8 _
             have hb8 : Below (B + 2) W w8 := (hbw.trans ((hb17.alloc hs17 _).mono (by omega))).grown hg8 (by simp; omega) (fun k hk => (hownA.lt k hk).1)
             clear hownA hksA hg8 hD7 hb7))
        go_roundw
        case rel =>
          refine ⟨j + 1, by omega, by go_num, ?_, hb8⟩
          rw [hWT.out, kcs_append]
          exact hown8
        case measure => simp [intOf]; omega
      · have g1 : (un u l.length : Int) ≤ (j : Int) := by omega
        rw [if_neg hju] at hWT
        have hky := kc_length y
        go_wp2_with (first
          | (refine wpList_load_at (by rfl) 26 _ rfl wr.heap.size 0 rfl (kc y) _ (range_of_block hD6) Try.underlying26 rfl (key_info y) ?_)
          | (at_builtin
             rw [fold_key y _ rfl]
             have hs17 : wr.heap.size ≤ w6.heap.size := by omega
             have hownA := owns_below hown (hb16.alloc hs17 (.cells (kc y).toArray 26))
             have hksA := key_slice w6 y
             refine wpList_append_ks _ rfl (.tmp 23) (.tmp 25) rfl (B + 2) _ j _ rfl hownA _ [y] rfl hksA (by simp; omega) (by simp; omega) ?_
             intro v8 w8 hown8 hg8 _
             have hb8 : Below (B + 2) W w8 := (hbw.trans ((hb16.alloc hs17 _).mono (by omega))).grown hg8 (by simp; omega) (fun k hk => (hownA.lt k hk).1)
             clear hownA hksA hg8))
        go_roundw
        case rel =>
          refine ⟨j + 1, by omega, by go_num, ?_, hb8⟩
          rw [hWT.out, kcs_append]
          exact hown8
        case measure => simp [intOf]; omega
    · obtain rfl : j = l.length := by omega
      have hks := own_ks (l := wiped l u) (by rw [wiped_length]; rwa [List.take_of_length_le (by rw [wiped_length]; exact Nat.le_refl _)] at hown) (by rw [wiped_length]; omega)
      have HKS := Lib.hid hks
      clear hks
      have d1 : wr.cell? ⟨B, 1, none⟩ = some (.int .i64 u) := (cell_of_block hA1 1).trans rfl
      have hform := hown.2
      have hB3 : Below B w wr := hb0.trans (hbw.mono (by omega))
      rcases hform with ⟨rfl, h0⟩ | ⟨g, cp, cur, rfl, hgB, hh, hcn, hcm, hsz, _⟩
      · go_wp2_with (refine wpList_store_row rfl 24 _ _ rfl (B + 1) #[(.slice none 0 0), .int .i64 u] rfl rfl 24 _ hY1 info_src rfl (src_one _ _ _ _) ?_)
        have h2 : (wr.setRow (B + 1) #[(.slice none 0 0), .int .i64 u]).heap[B + 1]? = some (.cells #[(.slice none 0 0), .int .i64 u] 24 (0, 0)) := setRow_heap _ _ _ _ _ _ hY1
        (try simp only [Exit.inBlock, Exit.then])
        refine bodyPost_ret (results_cell_row rfl _ _ (B + 1) _ _ _ _ rfl h2 Try.underlying24 rfl info_src) rfl ?_
        rw [HB.out]
        have hnil : wiped l u = [] := List.eq_nil_of_length_eq_zero (by rw [wiped_length]; exact h0)
        exact ⟨⟨_, rfl, hnil.symm ▸ ks_nil _⟩, below_setRow hB3 (by omega) _⟩
      · go_wp2_with (refine wpList_store_row rfl 24 _ _ rfl (B + 1) #[(.slice (some ⟨g, 0, none⟩) l.length cp), .int .i64 u] rfl rfl 24 _ hY1 info_src rfl (src_one _ _ _ _) ?_)
        have h2 : (wr.setRow (B + 1) #[(.slice (some ⟨g, 0, none⟩) l.length cp), .int .i64 u]).heap[B + 1]? = some (.cells #[(.slice (some ⟨g, 0, none⟩) l.length cp), .int .i64 u] 24 (0, 0)) := setRow_heap _ _ _ _ _ _ hY1
        (try simp only [Exit.inBlock, Exit.then])
        refine bodyPost_ret (results_cell_row rfl _ _ (B + 1) _ _ _ _ rfl h2 Try.underlying24 rfl info_src) rfl ?_
        rw [HB.out]
        exact ⟨⟨_, rfl, (HKS.out).setRow (by omega) _⟩, below_setRow hB3 (by omega) _⟩
end Go.Proofs.Ytkllljgnpcmojaa
