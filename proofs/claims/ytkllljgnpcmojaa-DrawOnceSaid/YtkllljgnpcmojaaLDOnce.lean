/- The walk of the law DrawOnce. -/
import Derived.Test.YtkllljgnpcmojaaLDKeeps
import Derived.Test.YtkllljgnpcmojaaRegion
namespace Go.Proofs.Ytkllljgnpcmojaa
open Go Go.RowKit

theorem un_nat (j n : Nat) (h : j ≤ n) : un (j : Int) n = j := by unfold un; omega

/-- A source is laid into a block that is known whole, and no other block is touched. -/
theorem wpList_lay_only {ops : Array Oper} {rest : List Oper} {op : Oper} {a : Act} {w : World} {Q : Exit → Act → World → Prop} (hgd : op.guard = none) (x y : Operand) (ho : op.op = .store 24 x y)
    (g : Nat) (b : Option Addr) (n cap : Nat) (u : Int) (old : Array Value) (hg : w.heap[g]? = some (.cells old 24 (0, 0))) (hold : old.size = 2)
    (hx : a.eval x = .pointer (some ⟨g, 0, none⟩)) (hy : a.eval y = .agg #[.slice b n cap, .int .i64 u])
    (h : ∀ w2 : World, w2.heap[g]? = some (.cells #[.slice b n cap, .int .i64 u] 24 (0, 0)) → Below g w w2 → w2.heap.size = w.heap.size → (∀ k, k ≠ g → w2.heap[k]? = w.heap[k]?) → wpList Try.prog ops Q rest (a.put op.dst undef) w2) : wpList Try.prog ops Q (op :: rest) a w :=
  wpList_store_row hgd 24 x y ho g #[.slice b n cap, .int .i64 u] hx hy 24 old hg info_src hold (src_one _ _ _ _)
    (h _ (setRow_heap _ _ _ _ _ _ hg) (below_setRow (Below.refl _ _) (Nat.le_refl _) _) (by simp) (fun k hk => setRow_other _ _ _ _ hk))
theorem own_on {w w' : World} {B n sz : Nat} {e : TypeId} {v : Value} {xs : List Value} (h : w.ownsRow B e sz v n xs) (hs : ∀ k, B ≤ k → w'.heap[k]? = w.heap[k]?) : w'.ownsRow B e sz v n xs := by
  refine ⟨h.1, ?_⟩
  rcases h.2 with h0 | ⟨g, cap, cur, hv, hg, hh, h1⟩
  · exact Or.inl h0
  · exact Or.inr ⟨g, cap, cur, hv, hg, (hs g hg).trans hh, h1⟩

set_option linter.unusedSimpArgs false in
set_option maxHeartbeats 4000000 in
set_option maxRecDepth 100000 in
theorem drawOnce_walk (a0 : Option Addr) (len0 cap0 : Nat) (w : World) (w0 : len0 ≤ 140737488355328 → ∃ l, Ks w (.slice a0 len0 cap0) l) :
    Calls Try.prog 4 #[.slice a0 len0 cap0] w fun e w' => e = .returned (.bool true) ∧ Below w.heap.size w w' := by
  by_cases h1 : len0 ≤ 60
  · obtain ⟨l, hk⟩ := w0 (by omega)
    obtain ⟨rfl, p1, p2, p3⟩ := hk.len
    clear w0
    have hz := zero_key
    go_enter Try.func4, Try.ntmps4
    go_wp2_with fail
    refine (awake8_any _).mono ?_
    rintro e w1 ⟨rfl, hB1⟩
    have hk1 := hk.below hB1
    clear hk
    go_wp2_with (first | ((refine wpList_lay_src (by rfl) _ _ (by rfl) w1.heap.size a0 l.length cap0 0 _ (heap_alloc_new w1 _) (by rfl) (by rfl) (by rfl) ?_); intro w2 hs2 hb2 hz2))
    have hb12 : Below w1.heap.size w1 w2 := ((Below.refl _ w1).alloc (Nat.le_refl _) _).trans hb2
    have hz2' : w2.heap.size = w1.heap.size + 1 := by rw [hz2]; simp
    obtain ⟨S, hS⟩ : ∃ S, w1.heap.size = S := ⟨_, rfl⟩
    have HS := Lib.hid hS
    rw [hS] at hs2 hb12 hz2'
    rw [hS]
    clear hS hb2 hz2
    go_loopw [5, 6] (fun v i wr => ∃ j : Nat, j ≤ l.length ∧ i = .int .i64 j ∧ wr.heap[S]? = some (.cells #[.slice a0 l.length cap0, .int .i64 j] 24 (0, 0)) ∧ wr.ownsRow (S + 1) 26 32 v j (kcs (l.take j)) ∧ Below S w1 wr ∧ S < wr.heap.size) (fun _ i _ => l.length - (intOf i).toNat)
    case atStart => exact ⟨0, by omega, rfl, hs2, World.ownsRow_nil _ _ _ _, hb12, by omega⟩
    case round =>
      obtain ⟨j, hj, rfl, hSr, hown, hbr, hsr⟩ := hrel
      have hbr' : Below w1.heap.size w1 wr := by rw [HS.out]; exact hbr
      have hkr := hk1.below hbr'
      have hBr := hB1.trans (hbr'.mono hB1.size)
      have hun := un_nat j l.length hj
      obtain ⟨c0, c1⟩ := src_on hSr (Below.refl _ wr)
      by_cases hlt : j < l.length
      · obtain ⟨k, hkk⟩ : ∃ k, l[j]? = some k := ⟨_, List.getElem?_eq_getElem hlt⟩
        by_cases hbad : k = k0 ∨ k ∈ l.take j
        · have hnx : nx l (j : Int) = (k0, (j : Int), 80) := nx_bad (k := k) (by rw [hun]; exact hkk) (by rw [hun]; exact hbad)
          have HN := Lib.hid hnx
          have he := key_eq_is k0 k0 true (by simp)
          clear hnx hkk hbad hun hbr hown
          go_wp2_with fail
          refine (next_any a0 l.length cap0 l j wr hkr).mono ?_
          rintro e w3 ⟨rfl, hb3⟩
          rw [HN.out]
          clear HN
          go_wp2_with (first
            | ((refine wpList_lay_key (by rfl) _ _ (by rfl) k0 w3 _ _ (by rfl) (by rfl) (by rfl) (by rfl) ?_); intro w4 hk4 hs4 hb4 hz4)
            | ((refine wpList_lay_src (by rfl) _ _ (by rfl) (w3.heap.size + 1) a0 l.length cap0 j _ hs4 (by rfl) (by rfl) (by rfl) ?_); intro w5 hs5 hb5 hz5; have hb35 := hb4.trans (hb5.mono (by omega)); have hbr5 := hb3.trans (hb35.mono hb3.size); have hk5 := (hb5.block _ (by omega)).trans hk4; obtain ⟨d0, d1⟩ := src_on hs5 (Below.refl _ w5))
            | (refine wpList_load_at (by rfl) 26 _ rfl w3.heap.size 0 rfl (kc k0) _ (range_of_block hk5) Try.underlying26 rfl (key_info _) ?_))
          go_ret
          exact ⟨rfl, hBr.trans (hbr5.mono hBr.size)⟩
        · have hnx : nx l (j : Int) = (k, (j : Int) + 1, 0) := by
            have := nx_good (k := k) (l := l) (u := (j : Int)) (by rw [hun]; exact hkk) (by rw [hun]; exact hbad)
            rw [hun] at this
            exact this
          have hne : k ≠ k0 := fun h => hbad (Or.inl h)
          have hnin : k ∉ l.take j := fun h => hbad (Or.inr h)
          have hun1 : un ((j : Int) + 1) l.length = j + 1 := un_nat (j + 1) l.length (by omega)
          have hlj : l.length - (j + 1) = l.length - j - 1 := by omega
          have htl : (l.take j).length = j := by rw [List.length_take]; omega
          have HN := Lib.hid hnx
          have Hkk := Lib.hid hkk
          have Hun1 := Lib.hid hun1
          have Hlj := Lib.hid hlj
          have Htl := Lib.hid htl
          clear hnx hkk hbad hun hun1 hlj htl
          go_wp2_with fail
          refine (next_any a0 l.length cap0 l j wr hkr).mono ?_
          rintro e w3 ⟨rfl, hb3⟩
          rw [HN.out]
          clear HN
          go_wp2_with (first
            | ((refine wpList_lay_key (by rfl) _ _ (by rfl) k w3 _ _ (by rfl) (by rfl) (by rfl) (by rfl) ?_); intro w4 hk4 hs4 hb4 hz4)
            | ((refine wpList_lay_src (by rfl) _ _ (by rfl) (w3.heap.size + 1) a0 l.length cap0 ((j : Int) + 1) _ hs4 (by rfl) (by rfl) (by rfl) ?_); intro w5 hs5 hb5 hz5))
          have hb35 := hb4.trans (hb5.mono (by omega))
          have hbr5 := hb3.trans (hb35.mono hb3.size)
          have hK5 : w5.heap[w3.heap.size]? = some (.cells (kc k).toArray 26 (0, 0)) := (hb5.block _ (by omega)).trans hk4
          have hS5 := blk_on hSr hbr5
          have hown5 := owns_below hown hbr5
          have hk5 := hkr.below hbr5
          have hB5 := hBr.trans (hbr5.mono hBr.size)
          have hbS5 := hbr.trans (hbr5.mono (by omega))
          have hz35 : w3.heap.size + 2 = w5.heap.size := by omega
          have hwr3 := hb3.size
          have hKown : ∀ b, u5.ownBlock = some b → b < w3.heap.size := fun b hb => Nat.lt_of_lt_of_le (hown.lt b hb).2 hwr3
          obtain ⟨K, hK⟩ : ∃ K, w3.heap.size = K := ⟨_, rfl⟩
          rw [hK] at hK5 hs5 hz35 hwr3 hKown
          rw [hK]
          clear hk4 hs4 hb4 hz4 hb5 hz5 hb35 hb3 hkr hSr hbr hbr' hBr hown c0 c1 hK
          have hseen : Ks w5 u5 (l.take j) := own_ks (by rw [Htl.out]; exact hown5) (by rw [Htl.out]; omega)
          obtain ⟨av, cv, rfl, _⟩ := id hseen
          rw [Htl.out] at hseen hown5 hKown
          rw [Htl.out]
          go_loopw [10] (fun i wi => ∃ p : Nat, p ≤ j ∧ i = .int .i64 p ∧ Below w5.heap.size w5 wi) (fun i _ => j - (intOf i).toNat)
          case atStart => exact ⟨0, by omega, rfl, Below.refl _ _⟩
          case round =>
            obtain ⟨p, hp, rfl, hbi⟩ := hrel
            by_cases hpj : p < j
            · obtain ⟨x, hx⟩ : ∃ x, (l.take j)[p]? = some x := ⟨_, List.getElem?_eq_getElem (by rw [Htl.out]; exact hpj)⟩
              obtain ⟨bV, oV, rfl, hbV, hrV⟩ := hseen.at p x hx
              have hxk : x ≠ k := fun h => hnin (h ▸ List.mem_of_getElem? hx)
              have he := key_eq_is x k false (beq_eq_false_iff_ne.2 hxk)
              have gX := fun (w' : World) (h : Below wr.heap.size wr w') => range_below hrV (below_next h hbi) hbV
              have gK := fun (w' : World) (h : Below wr.heap.size wr w') => range_of_block (blk_on hK5 (below_next h hbi))
              have i1 : (0 : Int) ≤ (p : Int) := by omega
              have i2 : (p : Int) < (j : Int) := by omega
              have j60 : p ≤ 60 := by omega
              clear hx hrV hseen hown5 hKown hk5 hS5 hK5 hs5 hxk hnin hne
              go_wp2_with fail
              refine wp_region_noPanic ?_
              refine wp_region_held_drew (S := (fun w' => Below wr.heap.size wr w')) (by kernel_rfl) ?_ (fun hHeld => ?_)
              · exact below_self_drew _
              refine takeL 0 (v := ?_) rfl (by kernel_rfl) (by kernel_rfl) (by kernel_rfl) (fun _ _ _ h => h) (Or.inl ⟨by rfl, ?_⟩) (by assumption) ?_
              rotate_left
              · (intro w hSw; go_simp; try with_reducible rfl)
              (try simp only [Act.put, List.setIfInBounds_toArray, List.set_cons_zero, List.set_cons_succ])
              refine takeL 1 (v := ?_) rfl (by kernel_rfl) (by kernel_rfl) (by kernel_rfl) (fun _ _ _ h => h) (Or.inl ⟨by rfl, ?_⟩) (by assumption) ?_
              rotate_left
              · (intro w hSw; go_simp; try with_reducible rfl)
              (try simp only [Act.put, List.setIfInBounds_toArray, List.set_cons_zero, List.set_cons_succ])
              refine takeL 2 (v := ?_) rfl (by kernel_rfl) (by kernel_rfl) (by kernel_rfl) (fun _ _ _ h => h) (Or.inl ⟨by rfl, ?_⟩) (by assumption) ?_
              rotate_left
              · (intro w hSw; go_simp; try with_reducible rfl)
              (try simp only [Act.put, List.setIfInBounds_toArray, List.set_cons_zero, List.set_cons_succ])
              refine takeL 3 (v := _) rfl (by kernel_rfl) (by kernel_rfl) (by kernel_rfl) (fun _ _ _ h => h) (yieldsIf_load_mid (by rfl) _ _ rfl _ _ rfl (kc x) _ (fun w hSw => gX _ hSw) Try.underlying26 rfl (key_info _)) (by assumption) ?_
              (try simp only [Act.put, List.setIfInBounds_toArray, List.set_cons_zero, List.set_cons_succ])
              refine takeL 4 (v := _) rfl (by kernel_rfl) (by kernel_rfl) (by kernel_rfl) (fun _ _ _ h => h) (yieldsIf_load_mid (by rfl) _ _ rfl _ _ rfl (kc k) _ (fun w hSw => gK _ hSw) Try.underlying26 rfl (key_info _)) (by assumption) ?_
              (try simp only [Act.put, List.setIfInBounds_toArray, List.set_cons_zero, List.set_cons_succ])
              refine takeL 5 (v := ?_) rfl (by kernel_rfl) (by kernel_rfl) (by kernel_rfl) (fun _ _ _ h => h) (Or.inl ⟨by rfl, ?_⟩) (by assumption) ?_
              rotate_left
              · (intro w hSw; go_simp; try with_reducible rfl)
              (try simp only [Act.put, List.setIfInBounds_toArray, List.set_cons_zero, List.set_cons_succ])
              refine wpAnyH_done (by kernel_rfl) ?_ _
              refine NoPanic.normal ?_
              have hfin : Below wr.heap.size wr wr.drew := below_self_drew _
              clear gX gK he
              go_wp2
              go_roundw
              case rel => exact ⟨p + 1, by omega, congrArg (Value.int .i64) (by omega), below_next hfin hbi⟩
              case measure =>
                show j - ((p : Int) + 1).toNat < j - (p : Int).toNat
                omega
            · obtain rfl : p = j := by omega
              have hz5 := hbi.size
              have hownI := owns_below hown5 hbi
              have hKi := blk_on hK5 hbi
              have hSi := blk_on hS5 hbi
              have hTi := blk_on hs5 hbi
              have hbSi := hbS5.trans (hbi.mono (by omega))
              have hb6 : Below wr.heap.size wr (wr.alloc (.cells (kc k).toArray 26)) := (Below.refl _ wr).alloc (Nat.le_refl _) _
              have hownA := owns_below hownI hb6
              have hksA := key_slice wr k
              have hk32 := kc_length k
              have p60 : p ≤ 60 := by omega
              clear hownI hK5 hS5 hs5 hbS5 hseen hbi hk5
              go_wp2_with (first
                | (refine wpList_load_at (by rfl) 26 _ rfl K 0 rfl (kc k) _ (range_of_block hKi) Try.underlying26 rfl (key_info _) ?_)
                | (at_builtin
                   rw [fold_key k _ rfl]
                   refine wpList_append_ks _ rfl (.tmp 59) (.tmp 61) rfl (S + 1) _ p _ rfl hownA _ [k] rfl hksA (by simp; omega) (by simp; omega) ?_
                   intro v8 w8 hown8 hg8 _))
              have hb8 : Below (S + 1) wr w8 := ((Below.refl (S + 1) wr).alloc (by omega) _).grown hg8 (by simp; omega) (fun k hk => (hownA.lt k hk).1)
              have hbw8 := hb8.size
              have hS8 := (hb8.block S (by omega)).trans hSi
              have hother : ∀ b, b < wr.heap.size → K ≤ b → w8.heap[b]? = wr.heap[b]? := fun b hb hKb => (hg8.block b (by simp; omega) (fun h => by have := hKown b h.symm; omega)).trans (hb6.block b hb)
              have hK8 := (hother K (by omega) (by omega)).trans hKi
              have hT8 := (hother (K + 1) (by omega) (by omega)).trans hTi
              have hbS8 := hbSi.trans (hb8.mono (by omega))
              have hk8 := hk1.below (by rw [HS.out]; exact hbS8)
              have hB8 := hB1.trans (((by rw [HS.out]; exact hbS8 : Below w1.heap.size w1 w8)).mono hB1.size)
              have Hown8 := Lib.hid hown8
              clear hown8 hg8 hb8 hother hb6 hksA hownA hKi hSi hTi hbSi hKown hown5 hB5
              obtain ⟨bL, oL, rfl, hbL, hrL⟩ := hk8.at p k Hkk.out
              have gK := fun (w' : World) (h : Below w8.heap.size w8 w') => range_of_block (blk_on hK8 h)
              have gT0 := fun (w' : World) (h : Below w8.heap.size w8 w') => (src_on hT8 h).1
              have gT1 := fun (w' : World) (h : Below w8.heap.size w8 w') => (src_on hT8 h).2
              have gL := fun (w' : World) (h : Below w8.heap.size w8 w') => range_below hrL h hbL
              have he := key_ne_is k k false (by simp)
              have hun1 := Hun1.out
              have hlj := Hlj.out
              have hlj2 : ((l.length - p - 1 : Nat) : Int) = (l.length : Int) - (p : Int) - 1 := by omega
              have i1 : (0 : Int) ≤ (p : Int) := by omega
              have i2 : (p : Int) < (l.length : Int) := by omega
              have hw1 : IntKind.i64.wrap ((l.length : Int) - (p : Int)) = (l.length : Int) - (p : Int) := IntWalk.i64_in _ (by omega)
              have hw2 : IntKind.i64.wrap ((l.length : Int) - (p : Int) - 1) = (l.length : Int) - (p : Int) - 1 := IntWalk.i64_in _ (by omega)
              refine wp_region_noPanic ?_
              refine wp_region_held_drew (S := (fun w' => Below w8.heap.size w8 w')) (by kernel_rfl) ?_ (fun hHeld => ?_)
              · exact below_self_drew _
              refine takeL 0 (v := _) rfl (by kernel_rfl) (by kernel_rfl) (by kernel_rfl) (fun _ _ _ h => h) (yieldsIf_load_mid (by rfl) _ _ rfl _ _ rfl (kc k) _ (fun w hSw => gK _ hSw) Try.underlying26 rfl (key_info _)) (by assumption) ?_
              (try simp only [Act.put, List.setIfInBounds_toArray, List.set_cons_zero, List.set_cons_succ])
              refine stepL 1 rfl (by kernel_rfl) (fun K hK => ?_)
              (go_simp; go_at_call 21; refine (clean_is k false (beq_eq_false_iff_ne.2 hne) _).mono ?_; rintro e w9 ⟨rfl, hb9⟩)
              refine hK.out _ _ ?_ (fun hHeld => ?_)
              · first | assumption | exact below_next ‹_› ‹_›
              clear hK K
              (try simp only [Act.put, List.setIfInBounds_toArray, List.set_cons_zero, List.set_cons_succ])
              refine takeL 2 (v := ?_) rfl (by kernel_rfl) (by kernel_rfl) (by kernel_rfl) (fun _ _ _ h => h) (Or.inl ⟨by rfl, ?_⟩) (by assumption) ?_
              rotate_left
              · (intro w hSw; go_simp; try with_reducible rfl)
              (try simp only [Act.put, List.setIfInBounds_toArray, List.set_cons_zero, List.set_cons_succ])
              refine takeL 3 (v := ?_) rfl (by kernel_rfl) (by kernel_rfl) (by kernel_rfl) (fun _ _ _ h => h) (Or.inl ⟨by rfl, ?_⟩) (by assumption) ?_
              rotate_left
              · (intro w hSw; go_simp; try with_reducible rfl)
              (try simp only [Act.put, List.setIfInBounds_toArray, List.set_cons_zero, List.set_cons_succ])
              refine takeL 5 (v := ?_) rfl (by kernel_rfl) (by kernel_rfl) (by kernel_rfl) (fun _ _ _ h => h) (Or.inl ⟨by rfl, ?_⟩) (by assumption) ?_
              rotate_left
              · (intro w hSw; go_simp; try with_reducible rfl)
              (try simp only [Act.put, List.setIfInBounds_toArray, List.set_cons_zero, List.set_cons_succ])
              refine takeL 6 (v := ?_) rfl (by kernel_rfl) (by kernel_rfl) (by kernel_rfl) (fun _ _ _ h => h) (Or.inl ⟨by rfl, ?_⟩) (by assumption) ?_
              rotate_left
              · (intro w hSw; go_simp; try with_reducible rfl)
              (try simp only [Act.put, List.setIfInBounds_toArray, List.set_cons_zero, List.set_cons_succ])
              refine takeL 7 (v := ?_) rfl (by kernel_rfl) (by kernel_rfl) (by kernel_rfl) (fun _ _ _ h => h) (Or.inl ⟨by rfl, ?_⟩) (by assumption) ?_
              rotate_left
              · (intro w hSw; go_simp; try with_reducible rfl)
              (try simp only [Act.put, List.setIfInBounds_toArray, List.set_cons_zero, List.set_cons_succ])
              refine takeL 8 (v := ?_) rfl (by kernel_rfl) (by kernel_rfl) (by kernel_rfl) (fun _ _ _ h => h) (Or.inl ⟨by rfl, ?_⟩) (by assumption) ?_
              rotate_left
              · (intro w hSw; go_simp; try with_reducible rfl)
              (try simp only [Act.put, List.setIfInBounds_toArray, List.set_cons_zero, List.set_cons_succ])
              refine takeL 9 (v := ?_) rfl (by kernel_rfl) (by kernel_rfl) (by kernel_rfl) (fun _ _ _ h => h) (Or.inl ⟨by rfl, ?_⟩) (by assumption) ?_
              rotate_left
              · (intro w hSw; go_simp; try with_reducible rfl)
              (try simp only [Act.put, List.setIfInBounds_toArray, List.set_cons_zero, List.set_cons_succ])
              refine stepL 4 rfl (by kernel_rfl) (fun K hK => ?_)
              (go_simp; go_at_call 17; refine (left_any (some ⟨bL, oL, none⟩) l.length cap0 ((p : Int) + 1) _ (by omega)).mono ?_; rintro e w10 ⟨rfl, hb10⟩; rw [hun1, hlj, hlj2])
              refine hK.out _ _ ?_ (fun hHeld => ?_)
              · first | assumption | exact below_next ‹_› ‹_›
              clear hK K
              (try simp only [Act.put, List.setIfInBounds_toArray, List.set_cons_zero, List.set_cons_succ])
              refine takeL 10 (v := ?_) rfl (by kernel_rfl) (by kernel_rfl) (by kernel_rfl) (fun _ _ _ h => h) (Or.inl ⟨by rfl, ?_⟩) (by assumption) ?_
              rotate_left
              · (intro w hSw; go_simp; try with_reducible rfl)
              (try simp only [Act.put, List.setIfInBounds_toArray, List.set_cons_zero, List.set_cons_succ])
              refine takeL 11 (v := ?_) rfl (by kernel_rfl) (by kernel_rfl) (by kernel_rfl) (fun _ _ _ h => h) (Or.inl ⟨by rfl, ?_⟩) (by assumption) ?_
              rotate_left
              · (intro w hSw; go_simp; try with_reducible rfl)
              (try simp only [Act.put, List.setIfInBounds_toArray, List.set_cons_zero, List.set_cons_succ])
              refine takeL 12 (v := ?_) rfl (by kernel_rfl) (by kernel_rfl) (by kernel_rfl) (fun _ _ _ h => h) (Or.inl ⟨by rfl, ?_⟩) (by assumption) ?_
              rotate_left
              · (intro w hSw; go_simp; try with_reducible rfl)
              (try simp only [Act.put, List.setIfInBounds_toArray, List.set_cons_zero, List.set_cons_succ])
              refine takeL 13 (v := _) rfl (by kernel_rfl) (by kernel_rfl) (by kernel_rfl) (fun _ _ _ h => h) (yieldsIf_load_mid (by rfl) _ _ rfl _ _ rfl (kc k) _ (fun w hSw => gK _ hSw) Try.underlying26 rfl (key_info _)) (by assumption) ?_
              (try simp only [Act.put, List.setIfInBounds_toArray, List.set_cons_zero, List.set_cons_succ])
              refine takeL 14 (v := ?_) rfl (by kernel_rfl) (by kernel_rfl) (by kernel_rfl) (fun _ _ _ h => h) (Or.inl ⟨by rfl, ?_⟩) (by assumption) ?_
              rotate_left
              · (intro w hSw; go_simp; try with_reducible rfl)
              (try simp only [Act.put, List.setIfInBounds_toArray, List.set_cons_zero, List.set_cons_succ])
              refine takeL 15 (v := ?_) rfl (by kernel_rfl) (by kernel_rfl) (by kernel_rfl) (fun _ _ _ h => h) (Or.inl ⟨by rfl, ?_⟩) (by assumption) ?_
              rotate_left
              · (intro w hSw; go_simp; try with_reducible rfl)
              (try simp only [Act.put, List.setIfInBounds_toArray, List.set_cons_zero, List.set_cons_succ])
              refine takeL 16 (v := ?_) rfl (by kernel_rfl) (by kernel_rfl) (by kernel_rfl) (fun _ _ _ h => h) (Or.inl ⟨by rfl, ?_⟩) (by assumption) ?_
              rotate_left
              · (intro w hSw; go_simp; try with_reducible rfl)
              (try simp only [Act.put, List.setIfInBounds_toArray, List.set_cons_zero, List.set_cons_succ])
              refine takeL 17 (v := _) rfl (by kernel_rfl) (by kernel_rfl) (by kernel_rfl) (fun _ _ _ h => h) (yieldsIf_load_mid (by rfl) _ _ rfl _ _ rfl (kc k) _ (fun w hSw => gL _ hSw) Try.underlying26 rfl (key_info _)) (by assumption) ?_
              (try simp only [Act.put, List.setIfInBounds_toArray, List.set_cons_zero, List.set_cons_succ])
              refine takeL 18 (v := ?_) rfl (by kernel_rfl) (by kernel_rfl) (by kernel_rfl) (fun _ _ _ h => h) (Or.inl ⟨by rfl, ?_⟩) (by assumption) ?_
              rotate_left
              · (intro w hSw; go_simp; try with_reducible rfl)
              (try simp only [Act.put, List.setIfInBounds_toArray, List.set_cons_zero, List.set_cons_succ])
              refine takeL 19 (v := ?_) rfl (by kernel_rfl) (by kernel_rfl) (by kernel_rfl) (fun _ _ _ h => h) (Or.inl ⟨by rfl, ?_⟩) (by assumption) ?_
              rotate_left
              · (intro w hSw; go_simp; try with_reducible rfl)
              (try simp only [Act.put, List.setIfInBounds_toArray, List.set_cons_zero, List.set_cons_succ])
              refine wpAnyH_done (by kernel_rfl) ?_ _
              refine NoPanic.normal ?_
              have hfin : Below w8.heap.size w8 w10 := by assumption
              have hS10 := blk_on hS8 hfin
              obtain ⟨c0, c1⟩ := src_on hT8 hfin
              clear gK gT0 gT1 gL he hun1 hlj hlj2 hrL
              go_wp2_with (first | ((refine wpList_lay_only (by rfl) _ _ (by rfl) S (some ⟨bL, oL, none⟩) l.length cap0 ((p : Int) + 1) _ hS10 (by rfl) (by rfl) (by rfl) ?_); intro w11 hs11 hb11 hz11 ho11))
              have hz10 := hfin.size
              have hown11 := own_on (owns_below Hown8.out hfin) (w' := w11) (fun b hb => ho11 b (by omega))
              have htk : l.take (p + 1) = l.take p ++ [k] := by
                rw [List.take_add_one, Hkk.out]
                rfl
              have hbS11 := hbS8.trans ((hfin.mono (by omega)).trans hb11)
              go_roundw
              case rel =>
                refine ⟨p + 1, by omega, congrArg (Value.int .i64) (by omega), ?_, ?_, hbS11, by omega⟩
                · rw [show ((p + 1 : Nat) : Int) = (p : Int) + 1 by omega]
                  exact hs11
                · rw [htk, kcs_append]
                  exact hown11
              case measure =>
                show l.length - ((p : Int) + 1).toNat < l.length - (p : Int).toNat
                omega
      · have hnx : nx l (j : Int) = (k0, (j : Int), 80) := nx_none (by rw [hun]; omega)
        have HN := Lib.hid hnx
        clear hnx hun hbr hown
        go_wp2_with fail
        refine (next_any a0 l.length cap0 l j wr hkr).mono ?_
        rintro e w3 ⟨rfl, hb3⟩
        rw [HN.out]
        clear HN
        go_wp2_with (first
          | ((refine wpList_lay_key (by rfl) _ _ (by rfl) k0 w3 _ _ (by rfl) (by rfl) (by rfl) (by rfl) ?_); intro w4 hk4 hs4 hb4 hz4)
          | ((refine wpList_lay_src (by rfl) _ _ (by rfl) (w3.heap.size + 1) a0 l.length cap0 j _ hs4 (by rfl) (by rfl) (by rfl) ?_); intro w5 hs5 hb5 hz5; have hb35 := hb4.trans (hb5.mono (by omega)); have hbr5 := hb3.trans (hb35.mono hb3.size)))
        go_ret
        exact ⟨rfl, hBr.trans (hbr5.mono hBr.size)⟩
  · have h1' : 60 < len0 := by omega
    clear h1 w0
    go_enter Try.func4, Try.ntmps4
    go_wp2_with fail
    refine (awake8_any _).mono ?_
    rintro e w1 ⟨rfl, hb1⟩
    go_wp2
    go_ret
    exact ⟨rfl, hb1⟩
end Go.Proofs.Ytkllljgnpcmojaa
