/- A tag of 16 bytes: poly.Sum. -/
import Derived.Test.YtdiokmaomglefaaMP
import Derived.Lib.MinMax
import Derived.Laws.Externs
import Derived.Test.YtdiokmaomglefaaMA
namespace Go.Proofs.Ytdiokmaomglefaa
open Go Go.RowKit

theorem anyH_world {P : Program} {md : Region.Mode} {ops : Array Oper} {Q : Exit → Act → World → Prop} {S : World → Prop} {fuel : Nat} {listed : Array Bool} {a : Act} {w : World} (h : ∀ w0, w0 = w → wpAnyH P md ops Q S fuel listed a w0) : wpAnyH P md ops Q S fuel listed a w := h w rfl
theorem Mk.done {N : Nat} {a w : World} {r : Option (Nat × List UInt8)} {o : Option Nat} {k : Nat} {cs : List Int} (h : Mk N a r o (some k) w) (hl : cs.length = 5) : N ≤ k ∧ (∃ cs' : List Int, cs'.length = 5 ∧ (w.setRow k (fv cs)).heap[k]? = some (.cells (fv cs') 167 (0, 0))) ∧ Below N a (w.setRow k (fv cs)) := by
  obtain ⟨h1, h2, _⟩ := h.num k rfl
  exact ⟨h1, ⟨cs, hl, setRow_heap _ _ _ _ _ _ h2⟩, below_setRow h.bel h1 _⟩
theorem of_len {l : List UInt8} {m : Nat} (hl : l.length = m) (hm : m ≤ 16) : (([] ++ l) ++ [1]).length ≤ 17 := by simp; omega
theorem of_top {l : List UInt8} {m : Nat} (hl : l.length = m) (hm : m ≤ 16) (x : UInt8) (hx : (([] ++ l) ++ [1])[16]? = some x) : x.toNat < 4 := by
  rw [List.nil_append] at hx
  rcases Nat.lt_or_ge 16 (l.length + 1) with h | h
  · rw [List.getElem?_append_right (by omega), show 16 - l.length = 0 by omega] at hx
    obtain rfl : x = 1 := by simpa using hx.symm
    decide
  · rw [List.getElem?_eq_none (by simp; omega)] at hx
    cases hx
theorem of_bt {l : List UInt8} {m n : Nat} (hl : l.length = m) (hm : m ≤ 16) (hn : n = (([] ++ l) ++ [1]).length) {N g : Nat} {a w : World} {o u : Option Nat} (h : Mk N a (some (g, ([] ++ l) ++ [1])) o u w) : Bt w (.slice (some ⟨g, 0, none⟩) n 17) (([] ++ l) ++ [1]) := by
  subst hn
  exact h.bt (of_len hl hm)
/-- Behind the round's first region: of the slots only the number's pointer is known. -/
theorem wp_cut6 {P : Program} {c : Code} {Q : Exit → Act → World → Prop} {a : Act} {w : World} (R : Nat → World → Prop)
    (h1 : c.wp P (fun e a' w' => e = .normal ∧ ∃ k v27 v28 v29 v30 v31 v32 v33 v34, a' = (((((((((a.put (some 27) v27).put (some 28) v28).put (some 29) v29).put (some 30) v30).put (some 31) v31).put (some 32) v32).put (some 33) v33).put (some 34) v34).put (some 9) (.pointer (some ⟨k, 0, none⟩))) ∧ R k w') a w)
    (h2 : ∀ k v27 v28 v29 v30 v31 v32 v33 v34 w', R k w' → Q .normal (((((((((a.put (some 27) v27).put (some 28) v28).put (some 29) v29).put (some 30) v30).put (some 31) v31).put (some 32) v32).put (some 33) v33).put (some 34) v34).put (some 9) (.pointer (some ⟨k, 0, none⟩))) w') : c.wp P Q a w := by
  refine Code.wp_mono ?_ h1
  rintro e a' w' ⟨rfl, k, v27, v28, v29, v30, v31, v32, v33, v34, rfl, hR⟩
  exact h2 _ _ _ _ _ _ _ _ _ _ hR
def Same2 (A B : Nat) (a w : World) : Prop := w.heap[A]? = a.heap[A]? ∧ w.heap[B]? = a.heap[B]?
theorem bt_cut {w : World} {b off cap i : Nat} {l : List UInt8} (hb : Bt w (.slice (some ⟨b, off, none⟩) l.length cap) l) (hi : i ≤ l.length) :
    Bt w (.slice (if cap = i then some (⟨b, off, none⟩ : Addr) else some ((⟨b, off, none⟩ : Addr).add i)) (l.length - i) (cap - i)) (l.drop i) := by
  obtain ⟨_, h1, h2, _⟩ := hb.len
  by_cases hlt : i < l.length
  · rw [if_neg (by omega)]
    have := hb.part i (l.length - i) (cap - i) (by omega) (by omega) (by omega)
    rw [List.take_of_length_le (by simp)] at this
    rwa [show (⟨b, off, none⟩ : Addr).add i = ⟨b, off + i, none⟩ from Go.WideShapes.add_plain _ _ _]
  · have e : l.drop i = [] := by simp; omega
    rw [e, show l.length - i = 0 by omega]
    exact bt_empty w _ _ (by split <;> (intro h; cases h)) (by omega)
theorem run_add (x y c : Int) (hx : 0 ≤ x) (hy : 0 ≤ y) (hc0 : 0 ≤ c) (hc : c ≤ 1) (w : World) :
    (callFunc 103 #[.int .u64 x, .int .u64 y, .int .u64 c]).run Try.prog w = .ok (.value (.tuple #[.int .u64 ((x + y + c) % 18446744073709551616), .int .u64 ((x + y + c) / 18446744073709551616)])) w := by
  rw [run_callFunc_extern Try.func103 (by kernel_rfl) (by kernel_rfl) (by kernel_rfl) (e := add64Entry) (by kernel_rfl), run_add64 x y c hx hy hc0 hc]
  rfl
theorem then_world {K : Act → World → Prop} {Q : Exit → Act → World → Prop} {a : Act} {w : World} (h : ∀ w0, w0 = w → Exit.then K Q .normal a w0) : Exit.then K Q .normal a w := h w rfl
def lenV : Value → Nat
  | .slice _ n _ => n
  | _ => 0
set_option linter.unusedSimpArgs false in
set_option maxRecDepth 100000 in
set_option maxHeartbeats 8000000 in
theorem sum_any (ks : List UInt8) (hk : ks.length = 32) (v : Value) (l : List UInt8) (w : World) (hl : l.length ≤ 1000000) (h : Bt w v l) :
    Calls Try.prog 86 #[.agg (ks.map bv).toArray, v] w fun e w' => (∃ l' : List UInt8, l'.length = 16 ∧ e = .returned (.agg (l'.map bv).toArray)) ∧ Below w.heap.size w w' := by
  have HK := Lib.hid hk
  have HL := Lib.hid hl
  clear hk hl
  go_enter Try.func86, Try.ntmps86
  have har : ∀ (B : Nat) (w : World), (Instr.arrayAt 122 (.slice (some ⟨B, 0, none⟩) 16 32)).run Try.prog w = .ok (.pointer (some ⟨B, 0, none⟩)) w := fun B w => by kernel_rfl
  obtain ⟨k16, hk16⟩ : ∃ k16, ks.take 16 = k16 := ⟨_, rfl⟩
  have HK16 := Lib.hid hk16
  have HL16 := Lib.hid (show k16.length = 16 from by rw [← hk16, List.length_take, HK.out]; rfl)
  clear hk16
  have h2 := two_alloc (w := w) (o1 := .cells (ks.map bv).toArray 55) (o2 := .cells #[.int .u8 0, .int .u8 0, .int .u8 0, .int .u8 0, .int .u8 0, .int .u8 0, .int .u8 0, .int .u8 0, .int .u8 0, .int .u8 0, .int .u8 0, .int .u8 0, .int .u8 0, .int .u8 0, .int .u8 0, .int .u8 0] 122) rfl
  have r1 : ((w.alloc (.cells (ks.map bv).toArray 55)).alloc (.cells #[.int .u8 0, .int .u8 0, .int .u8 0, .int .u8 0, .int .u8 0, .int .u8 0, .int .u8 0, .int .u8 0, .int .u8 0, .int .u8 0, .int .u8 0, .int .u8 0, .int .u8 0, .int .u8 0, .int .u8 0, .int .u8 0] 122)).rangeAt w.heap.size 0 (k16.map bv) := by
    intro j u hj
    refine range_of_block h2.1 j u ?_
    rw [← HK16.out, List.map_take, List.getElem?_take] at hj
    split at hj
    · exact hj
    · cases hj
  clear h2
  have hi16 : (Try.prog.info? 122).map (·.size) = some 16 := by kernel_rfl
  have hil : (Try.prog.info? 122).map (·.size) = some (k16.map bv).length := by rw [List.length_map, HL16.out]; exact hi16
  go_wp2_with (refine wpList_load_at (by rfl) 122 (.tmp 16) rfl w.heap.size 0 (by rfl) (k16.map bv) _ r1 Try.underlying122 rfl hil ?_)
  clear r1 hil
  refine calls_world (fun w0 e0 => ?_)
  obtain ⟨g1, g2, hb, hs0⟩ := two_alloc e0
  clear e0
  refine (clamp_any k16 HL16.out w0).mono ?_
  rintro e w1 ⟨⟨c16, hc16, rfl⟩, hb1⟩
  obtain ⟨N, hN⟩ : ∃ N, w.heap.size = N := ⟨_, rfl⟩
  have hw1 : N + 2 ≤ w1.heap.size := by have := hb1.size; omega
  have HBW := Lib.hid (hb.trans (hb1.mono (by omega)))
  have HBT := Lib.hid h
  have H1 := Lib.hid (blk_on g1 hb1)
  have H2 := Lib.hid (blk_on g2 hb1)
  have HN := Lib.hid hN
  have HC := Lib.hid hc16
  clear h g1 g2 hb hs0 hb1 hc16
  rw [hN] at H1 H2 HBW ⊢
  clear hN
  have HS16 := Lib.hid (show (c16.map bv).toArray.size = 16 from by simpa using HC.out)
  have hone := bytes_one c16
  have gC := (one_alloc (w := w1) (o1 := .cells #[.int .u8 0, .int .u8 0, .int .u8 0, .int .u8 0, .int .u8 0, .int .u8 0, .int .u8 0, .int .u8 0, .int .u8 0, .int .u8 0, .int .u8 0, .int .u8 0, .int .u8 0, .int .u8 0, .int .u8 0, .int .u8 0] 122) rfl).1
  have BC := Lib.hid (one_alloc (w := w1) (o1 := .cells #[.int .u8 0, .int .u8 0, .int .u8 0, .int .u8 0, .int .u8 0, .int .u8 0, .int .u8 0, .int .u8 0, .int .u8 0, .int .u8 0, .int .u8 0, .int .u8 0, .int .u8 0, .int .u8 0, .int .u8 0, .int .u8 0] 122) rfl).2
  go_wp2_with (refine wpList_lay (by rfl) 122 (.tmp 5) (.tmp 18) rfl w1.heap.size (c16.map bv).toArray (by rfl) (by rfl) 122 _ gC 16 hi16 HS16.out rfl hone ?_; intro w2 hL2)
  clear gC hone hi16
  have hb2 : Below w1.heap.size w1 w2 := BC.out.1.trans hL2.bel
  have hs2 : w2.heap.size = w1.heap.size + 1 := hL2.size.trans BC.out.2
  obtain ⟨M, hM⟩ : ∃ M, w1.heap.size = M := ⟨_, rfl⟩
  have gM := hL2.blk
  rw [hM] at hb2 hs2 gM hw1 ⊢
  have HB2 := Lib.hid (HBW.out.trans (hb2.mono (by omega)))
  have H12 := Lib.hid (blk_on H1.out (hb2.mono (by omega)))
  have H22 := Lib.hid (blk_on H2.out (hb2.mono (by omega)))
  have hbt2 := bt_block gM (by rw [HC.out]; omega)
  have HM := Lib.hid hM
  rw [HC.out] at hbt2
  clear BC HBW H1 H2 hL2 hb2 hM HS16 gM
  have hof := of_bytes M 0 16 16 c16 (by rw [HC.out]; omega) (fun x hx => by rw [List.getElem?_eq_none (by rw [HC.out]; omega)] at hx; cases hx) w2 hbt2
  clear hbt2
  go_wp2_with fail
  refine hof.mono ?_
  rintro e w3 ⟨⟨cn, hcn, rfl⟩, hb3⟩
  have hs3 := hb3.size
  rw [hs2] at hb3 hs3
  have HB3 := Lib.hid (HB2.out.trans (hb3.mono (by omega)))
  have H13 := Lib.hid (blk_on H12.out (hb3.mono (by omega)))
  have H23 := Lib.hid (blk_on H22.out (hb3.mono (by omega)))
  have HCN := Lib.hid hcn
  have hw3 : N + 2 ≤ w3.heap.size := by omega
  clear hof hb3 HB2 H12 H22 hs2 hs3 hw1 HM hcn
  have hi5 := info_num
  have HS5 := Lib.hid (show (fv cn).size = 5 from by rw [fv_size]; exact HCN.out)
  have hone := fv_one cn
  have g6 := (one_alloc (w := w3) (o1 := .cells #[.int .u64 0, .int .u64 0, .int .u64 0, .int .u64 0, .int .u64 0] 167) rfl).1
  have B6 := Lib.hid (one_alloc (w := w3) (o1 := .cells #[.int .u64 0, .int .u64 0, .int .u64 0, .int .u64 0, .int .u64 0] 167) rfl).2
  go_wp2_with (refine wpList_lay (by rfl) 167 (.tmp 6) (.tmp 20) rfl w3.heap.size (fv cn) (by rfl) (by rfl) 167 _ g6 5 hi5 HS5.out rfl hone ?_; intro w4 hL4)
  refine code_world (fun w5 e5 => ?_)
  obtain ⟨g7, hb5, hs5⟩ := one_alloc e5
  clear e5 g6 hone
  have hs4 : w4.heap.size = w3.heap.size + 1 := hL4.size.trans B6.out.2
  have hb4 := B6.out.1.trans hL4.bel
  obtain ⟨P, hP⟩ : ∃ P, w3.heap.size = P := ⟨_, rfl⟩
  have gP := blk_on hL4.blk hb5
  rw [hs4] at g7 hb5 hs5 ⊢
  rw [hP] at g7 hb5 hs5 hb4 gP hw3 ⊢
  have hb45 := hb4.trans (hb5.mono (by omega))
  have HB5 := Lib.hid (HB3.out.trans (hb45.mono (by omega)))
  have H15 := Lib.hid (blk_on H13.out (hb45.mono (by omega)))
  have H25 := Lib.hid (blk_on H23.out (hb45.mono (by omega)))
  have HGP := Lib.hid gP
  have HS := Lib.hid hs5
  have F0 : Five (P + 1) w5 w5 := Five.start (cs := [0, 0, 0, 0, 0]) rfl g7
  have HF := Lib.hid F0
  clear hb45 hb4 hb5 hs5 hs4 g7 gP hL4 B6 hP HB3 H13 H23 F0 HS5
  go_loopw [1, 8, 9, 10, 35] (fun b _ _ _ _ wr => ∃ l2 : List UInt8, l2.length ≤ l.length ∧ Bt w b l2 ∧ Five (P + 1) w5 wr) (fun b _ _ _ _ _ => lenV b)
  case atStart => exact ⟨l, Nat.le_refl _, HBT.out, HF.out⟩
  case round =>
    clear HF
    obtain ⟨l2, hl2, hbt, HO⟩ := hrel
    obtain ⟨av, cap, rfl, hnone, hcap, hcapm, hlm, hwh⟩ := hbt
    by_cases hpos : 0 < l2.length
    · obtain ⟨tb, off, rfl, htb, hcell⟩ := hwh (by rintro rfl; simp at hpos)
      have hdl : decide ((0 : Int) < (l2.length : Int)) = true := decide_eq_true (by omega)
      obtain ⟨m, hm⟩ : ∃ m, min 16 l2.length = m := ⟨_, rfl⟩
      have hm0 : 0 < m := by omega
      have hm16 : m ≤ 16 := by omega
      have hml : m ≤ l2.length := by omega
      have hmi : min (16 : Int) (l2.length : Int) = (m : Int) := by omega
      have hmk : ∀ w, (Instr.makeSlice 24 (.int .i64 0) (.int .i64 17)).run Try.prog w = .ok (.slice (some ⟨w.heap.size, 0, none⟩) 0 17) (w.alloc (.cells #[.int .u8 0, .int .u8 0, .int .u8 0, .int .u8 0, .int .u8 0, .int .u8 0, .int .u8 0, .int .u8 0, .int .u8 0, .int .u8 0, .int .u8 0, .int .u8 0, .int .u8 0, .int .u8 0, .int .u8 0, .int .u8 0, .int .u8 0] 5)) := fun w => by kernel_rfl
      have hHBT : Bt w (.slice (some ⟨tb, off, none⟩) m cap) (l2.take m) := by
        have hp := Bt.part (i := 0) (m := m) (c := cap) (show Bt w (.slice (some ⟨tb, off, none⟩) l2.length cap) l2 from ⟨_, cap, rfl, fun e => (by cases e), hcap, hcapm, hlm, fun _ => ⟨tb, off, rfl, htb, hcell⟩⟩) (by omega) (by omega) hcapm
        simpa using hp
      have hbwr : Below w.heap.size w wr := by
        have h5 := HB5.out
        rw [← HN.out] at h5
        refine h5.trans (HO.upto.bel.mono ?_)
        have := HN.out
        omega
      have hswr := hbwr.size
      have HT : ∀ {wc : World}, Below wr.heap.size wr wc → Bt wc (.slice (some ⟨tb, off, none⟩) m cap) (l2.take m) := fun hh => hHBT.below (hbwr.trans (hh.mono hswr))
      have htl : (l2.take m).length = m := by rw [List.length_take]; omega
      have c1 : (m : Int) ≤ (cap : Int) := by omega
      have c2 : (0 : Int) ≤ (m : Int) := by omega
      have c3 : m ≤ cap := by omega
      obtain ⟨i0, hi, hz1⟩ := Option.map_eq_some_iff.1 (show (Try.prog.info? 5).map (·.size) = some 1 from by kernel_rfl)
      have hM := Mk.start (Below.refl wr.heap.size wr).drew
      have HBL := Lib.hid (show Bt w (.slice (some ⟨tb, off, none⟩) l2.length cap) l2 from ⟨_, cap, rfl, fun e => (by cases e), hcap, hcapm, hlm, fun _ => ⟨tb, off, rfl, htb, hcell⟩⟩)
      clear hnone hm hHBT hwh hbwr
      go_wp2_with fail
      refine wp_cut6 (fun k w' => wr.heap.size ≤ k ∧ (∃ cs' : List Int, cs'.length = 5 ∧ w'.heap[k]? = some (.cells (fv cs') 167 (0, 0))) ∧ Below wr.heap.size wr w') ?_ ?_
      · refine wp_region_noPanic ?_
        refine wp_region_held_drew (S := (fun _ => True)) (by kernel_rfl) ?_ (fun hHeld => ?_)
        · trivial
        refine takeL 1 (v := ?_) rfl (by kernel_rfl) (by kernel_rfl) (by kernel_rfl) (fun _ _ _ h => h) (Or.inl ⟨by rfl, ?_⟩) (by assumption) ?_
        rotate_left
        · (intro w hSw; go_simp; try with_reducible rfl)
        (try simp only [Act.put, List.setIfInBounds_toArray, List.set_cons_zero, List.set_cons_succ])
        refine takeL 2 (v := ?_) rfl (by kernel_rfl) (by kernel_rfl) (by kernel_rfl) (fun _ _ _ h => h) (Or.inl ⟨by rfl, ?_⟩) (by assumption) ?_
        rotate_left
        · (intro w hSw; go_simp; try with_reducible rfl)
        (try simp only [Act.put, List.setIfInBounds_toArray, List.set_cons_zero, List.set_cons_succ])
        refine takeL 3 (v := ?_) rfl (by kernel_rfl) (by kernel_rfl) (by kernel_rfl) (fun _ _ _ h => h) (Or.inl ⟨by rfl, ?_⟩) (by assumption) ?_
        rotate_left
        · (intro w hSw; go_simp; try with_reducible rfl)
        (try simp only [Act.put, List.setIfInBounds_toArray, List.set_cons_zero, List.set_cons_succ])
        refine wpAnyH_ready (rs := [0, 5, 8]) (by kernel_rfl) (by simp) ?_
        refine consL 0 rfl ?_ (fun K hK => ?_)
        rotate_left
        · skip
          go_simp
          refine hK.out _ _ ?_ (fun hHeld => ?_)
          · trivial
          clear hK K
          (try simp only [Act.put, List.setIfInBounds_toArray, List.set_cons_zero, List.set_cons_succ])
          (refine anyH_world (fun w1 e1 => ?_); replace hM := hM.make e1 rfl; clear e1)
          refine wpAnyH_ready (rs := [4, 5, 8]) (by kernel_rfl) (by simp) ?_
          refine consL 4 rfl ?_ (fun K hK => ?_)
          rotate_left
          · skip
            (refine step_app _ (by rfl) _ _ 24 (by rfl) i0 Try.underlying24 hi hz1 hM 0 rfl (by rfl) tb off m cap (l2.take m) (by rfl) (HT hM.bel) (by omega) (by simp; omega) ?_; intro w1 n1 hn1 hM1; replace hM := hM1; replace hn1 := Lib.hid hn1)
            refine hK.out _ _ ?_ (fun hHeld => ?_)
            · trivial
            clear hK K
            (try simp only [Act.put, List.setIfInBounds_toArray, List.set_cons_zero, List.set_cons_succ])
            refine wpAnyH_ready (rs := [5, 8]) (by kernel_rfl) (by simp) ?_
            refine consL 5 rfl ?_ (fun K hK => ?_)
            rotate_left
            · skip
              go_simp
              refine hK.out _ _ ?_ (fun hHeld => ?_)
              · trivial
              clear hK K
              (try simp only [Act.put, List.setIfInBounds_toArray, List.set_cons_zero, List.set_cons_succ])
              (refine anyH_world (fun w1 e1 => ?_); replace hM := hM.lit e1; clear e1)
              refine wpAnyH_ready (rs := [6, 8]) (by kernel_rfl) (by simp) ?_
              refine consL 6 rfl ?_ (fun K hK => ?_)
              rotate_left
              · skip
                (refine step_app _ (by rfl) _ _ 24 (by rfl) i0 Try.underlying24 hi hz1 hM n1 hn1.out (by rfl) _ 0 1 1 [1] (by rfl) hM.bt1 (by simp) (by simp; omega) ?_; intro w1 n2 hn2 hM1; replace hM := hM1; replace hn2 := Lib.hid hn2)
                refine hK.out _ _ ?_ (fun hHeld => ?_)
                · trivial
                clear hK K
                (try simp only [Act.put, List.setIfInBounds_toArray, List.set_cons_zero, List.set_cons_succ])
                refine wpAnyH_ready (rs := [7, 8]) (by kernel_rfl) (by simp) ?_
                refine consL 7 rfl ?_ (fun K hK => ?_)
                rotate_left
                · skip
                  (go_simp; go_at_call 100; refine (of_bytes _ 0 n2 17 _ (of_len htl hm16) (of_top htl hm16) _ (of_bt htl hm16 hn2.out hM)).mono ?_; rintro e w1 ⟨⟨cs, hcs, rfl⟩, hb⟩; replace hM := hM.on hb; clear hb)
                  refine hK.out _ _ ?_ (fun hHeld => ?_)
                  · trivial
                  clear hK K
                  (try simp only [Act.put, List.setIfInBounds_toArray, List.set_cons_zero, List.set_cons_succ])
                  refine stepL 8 rfl (by kernel_rfl) (fun K hK => ?_)
                  go_simp
                  refine hK.out _ _ ?_ (fun hHeld => ?_)
                  · trivial
                  clear hK K
                  (try simp only [Act.put, List.setIfInBounds_toArray, List.set_cons_zero, List.set_cons_succ])
                  (refine anyH_world (fun w1 e1 => ?_); replace hM := hM.var e1; clear e1)
                  refine stepL 9 rfl (by kernel_rfl) (fun K hK => ?_)
                  (rw [if_pos (by rfl)]; refine wp_store_row 167 _ _ (by rfl) _ (fv cs) (by rfl) (by rfl) 167 _ (hM.num _ rfl).2.1 (by rw [fv_size, hcs]; exact hi5) (by rw [fv_size, fv_size, hcs]; rfl) (fv_one cs) ?_)
                  refine hK.out _ _ ?_ (fun hHeld => ?_)
                  · trivial
                  clear hK K
                  (try simp only [Act.put, List.setIfInBounds_toArray, List.set_cons_zero, List.set_cons_succ])
                  refine wpAnyH_done (by kernel_rfl) ?_ _
                  refine NoPanic.normal ?_
                  refine ⟨rfl, ?_⟩
                  iterate 9 apply Exists.intro
                  refine ⟨?_, hM.done hcs⟩
                  try simp only [Act.put, List.setIfInBounds_toArray, List.set_cons_zero, List.set_cons_succ]
                  rfl
                refine consL 8 rfl ?_ (fun K hK => ?_)
                rotate_left
                · skip
                  go_simp
                  refine hK.out _ _ ?_ (fun hHeld => ?_)
                  · trivial
                  clear hK K
                  (try simp only [Act.put, List.setIfInBounds_toArray, List.set_cons_zero, List.set_cons_succ])
                  (refine anyH_world (fun w1 e1 => ?_); replace hM := hM.var e1; clear e1)
                  refine stepL 7 rfl (by kernel_rfl) (fun K hK => ?_)
                  (go_simp; go_at_call 100; refine (of_bytes _ 0 n2 17 _ (of_len htl hm16) (of_top htl hm16) _ (of_bt htl hm16 hn2.out hM)).mono ?_; rintro e w1 ⟨⟨cs, hcs, rfl⟩, hb⟩; replace hM := hM.on hb; clear hb)
                  refine hK.out _ _ ?_ (fun hHeld => ?_)
                  · trivial
                  clear hK K
                  (try simp only [Act.put, List.setIfInBounds_toArray, List.set_cons_zero, List.set_cons_succ])
                  refine stepL 9 rfl (by kernel_rfl) (fun K hK => ?_)
                  (rw [if_pos (by rfl)]; refine wp_store_row 167 _ _ (by rfl) _ (fv cs) (by rfl) (by rfl) 167 _ (hM.num _ rfl).2.1 (by rw [fv_size, hcs]; exact hi5) (by rw [fv_size, fv_size, hcs]; rfl) (fv_one cs) ?_)
                  refine hK.out _ _ ?_ (fun hHeld => ?_)
                  · trivial
                  clear hK K
                  (try simp only [Act.put, List.setIfInBounds_toArray, List.set_cons_zero, List.set_cons_succ])
                  refine wpAnyH_done (by kernel_rfl) ?_ _
                  refine NoPanic.normal ?_
                  refine ⟨rfl, ?_⟩
                  iterate 9 apply Exists.intro
                  refine ⟨?_, hM.done hcs⟩
                  try simp only [Act.put, List.setIfInBounds_toArray, List.set_cons_zero, List.set_cons_succ]
                  rfl
                exact AllReadyH.nil
              refine consL 8 rfl ?_ (fun K hK => ?_)
              rotate_left
              · skip
                go_simp
                refine hK.out _ _ ?_ (fun hHeld => ?_)
                · trivial
                clear hK K
                (try simp only [Act.put, List.setIfInBounds_toArray, List.set_cons_zero, List.set_cons_succ])
                (refine anyH_world (fun w1 e1 => ?_); replace hM := hM.var e1; clear e1)
                refine stepL 6 rfl (by kernel_rfl) (fun K hK => ?_)
                (refine step_app _ (by rfl) _ _ 24 (by rfl) i0 Try.underlying24 hi hz1 hM n1 hn1.out (by rfl) _ 0 1 1 [1] (by rfl) hM.bt1 (by simp) (by simp; omega) ?_; intro w1 n2 hn2 hM1; replace hM := hM1; replace hn2 := Lib.hid hn2)
                refine hK.out _ _ ?_ (fun hHeld => ?_)
                · trivial
                clear hK K
                (try simp only [Act.put, List.setIfInBounds_toArray, List.set_cons_zero, List.set_cons_succ])
                refine stepL 7 rfl (by kernel_rfl) (fun K hK => ?_)
                (go_simp; go_at_call 100; refine (of_bytes _ 0 n2 17 _ (of_len htl hm16) (of_top htl hm16) _ (of_bt htl hm16 hn2.out hM)).mono ?_; rintro e w1 ⟨⟨cs, hcs, rfl⟩, hb⟩; replace hM := hM.on hb; clear hb)
                refine hK.out _ _ ?_ (fun hHeld => ?_)
                · trivial
                clear hK K
                (try simp only [Act.put, List.setIfInBounds_toArray, List.set_cons_zero, List.set_cons_succ])
                refine stepL 9 rfl (by kernel_rfl) (fun K hK => ?_)
                (rw [if_pos (by rfl)]; refine wp_store_row 167 _ _ (by rfl) _ (fv cs) (by rfl) (by rfl) 167 _ (hM.num _ rfl).2.1 (by rw [fv_size, hcs]; exact hi5) (by rw [fv_size, fv_size, hcs]; rfl) (fv_one cs) ?_)
                refine hK.out _ _ ?_ (fun hHeld => ?_)
                · trivial
                clear hK K
                (try simp only [Act.put, List.setIfInBounds_toArray, List.set_cons_zero, List.set_cons_succ])
                refine wpAnyH_done (by kernel_rfl) ?_ _
                refine NoPanic.normal ?_
                refine ⟨rfl, ?_⟩
                iterate 9 apply Exists.intro
                refine ⟨?_, hM.done hcs⟩
                try simp only [Act.put, List.setIfInBounds_toArray, List.set_cons_zero, List.set_cons_succ]
                rfl
              exact AllReadyH.nil
            refine consL 8 rfl ?_ (fun K hK => ?_)
            rotate_left
            · skip
              go_simp
              refine hK.out _ _ ?_ (fun hHeld => ?_)
              · trivial
              clear hK K
              (try simp only [Act.put, List.setIfInBounds_toArray, List.set_cons_zero, List.set_cons_succ])
              (refine anyH_world (fun w1 e1 => ?_); replace hM := hM.var e1; clear e1)
              refine stepL 5 rfl (by kernel_rfl) (fun K hK => ?_)
              go_simp
              refine hK.out _ _ ?_ (fun hHeld => ?_)
              · trivial
              clear hK K
              (try simp only [Act.put, List.setIfInBounds_toArray, List.set_cons_zero, List.set_cons_succ])
              (refine anyH_world (fun w1 e1 => ?_); replace hM := hM.lit e1; clear e1)
              refine stepL 6 rfl (by kernel_rfl) (fun K hK => ?_)
              (refine step_app _ (by rfl) _ _ 24 (by rfl) i0 Try.underlying24 hi hz1 hM n1 hn1.out (by rfl) _ 0 1 1 [1] (by rfl) hM.bt1 (by simp) (by simp; omega) ?_; intro w1 n2 hn2 hM1; replace hM := hM1; replace hn2 := Lib.hid hn2)
              refine hK.out _ _ ?_ (fun hHeld => ?_)
              · trivial
              clear hK K
              (try simp only [Act.put, List.setIfInBounds_toArray, List.set_cons_zero, List.set_cons_succ])
              refine stepL 7 rfl (by kernel_rfl) (fun K hK => ?_)
              (go_simp; go_at_call 100; refine (of_bytes _ 0 n2 17 _ (of_len htl hm16) (of_top htl hm16) _ (of_bt htl hm16 hn2.out hM)).mono ?_; rintro e w1 ⟨⟨cs, hcs, rfl⟩, hb⟩; replace hM := hM.on hb; clear hb)
              refine hK.out _ _ ?_ (fun hHeld => ?_)
              · trivial
              clear hK K
              (try simp only [Act.put, List.setIfInBounds_toArray, List.set_cons_zero, List.set_cons_succ])
              refine stepL 9 rfl (by kernel_rfl) (fun K hK => ?_)
              (rw [if_pos (by rfl)]; refine wp_store_row 167 _ _ (by rfl) _ (fv cs) (by rfl) (by rfl) 167 _ (hM.num _ rfl).2.1 (by rw [fv_size, hcs]; exact hi5) (by rw [fv_size, fv_size, hcs]; rfl) (fv_one cs) ?_)
              refine hK.out _ _ ?_ (fun hHeld => ?_)
              · trivial
              clear hK K
              (try simp only [Act.put, List.setIfInBounds_toArray, List.set_cons_zero, List.set_cons_succ])
              refine wpAnyH_done (by kernel_rfl) ?_ _
              refine NoPanic.normal ?_
              refine ⟨rfl, ?_⟩
              iterate 9 apply Exists.intro
              refine ⟨?_, hM.done hcs⟩
              try simp only [Act.put, List.setIfInBounds_toArray, List.set_cons_zero, List.set_cons_succ]
              rfl
            exact AllReadyH.nil
          refine consL 5 rfl ?_ (fun K hK => ?_)
          rotate_left
          · skip
            go_simp
            refine hK.out _ _ ?_ (fun hHeld => ?_)
            · trivial
            clear hK K
            (try simp only [Act.put, List.setIfInBounds_toArray, List.set_cons_zero, List.set_cons_succ])
            (refine anyH_world (fun w1 e1 => ?_); replace hM := hM.lit e1; clear e1)
            refine wpAnyH_ready (rs := [4, 8]) (by kernel_rfl) (by simp) ?_
            refine consL 4 rfl ?_ (fun K hK => ?_)
            rotate_left
            · skip
              (refine step_app _ (by rfl) _ _ 24 (by rfl) i0 Try.underlying24 hi hz1 hM 0 rfl (by rfl) tb off m cap (l2.take m) (by rfl) (HT hM.bel) (by omega) (by simp; omega) ?_; intro w1 n1 hn1 hM1; replace hM := hM1; replace hn1 := Lib.hid hn1)
              refine hK.out _ _ ?_ (fun hHeld => ?_)
              · trivial
              clear hK K
              (try simp only [Act.put, List.setIfInBounds_toArray, List.set_cons_zero, List.set_cons_succ])
              refine wpAnyH_ready (rs := [6, 8]) (by kernel_rfl) (by simp) ?_
              refine consL 6 rfl ?_ (fun K hK => ?_)
              rotate_left
              · skip
                (refine step_app _ (by rfl) _ _ 24 (by rfl) i0 Try.underlying24 hi hz1 hM n1 hn1.out (by rfl) _ 0 1 1 [1] (by rfl) hM.bt1 (by simp) (by simp; omega) ?_; intro w1 n2 hn2 hM1; replace hM := hM1; replace hn2 := Lib.hid hn2)
                refine hK.out _ _ ?_ (fun hHeld => ?_)
                · trivial
                clear hK K
                (try simp only [Act.put, List.setIfInBounds_toArray, List.set_cons_zero, List.set_cons_succ])
                refine wpAnyH_ready (rs := [7, 8]) (by kernel_rfl) (by simp) ?_
                refine consL 7 rfl ?_ (fun K hK => ?_)
                rotate_left
                · skip
                  (go_simp; go_at_call 100; refine (of_bytes _ 0 n2 17 _ (of_len htl hm16) (of_top htl hm16) _ (of_bt htl hm16 hn2.out hM)).mono ?_; rintro e w1 ⟨⟨cs, hcs, rfl⟩, hb⟩; replace hM := hM.on hb; clear hb)
                  refine hK.out _ _ ?_ (fun hHeld => ?_)
                  · trivial
                  clear hK K
                  (try simp only [Act.put, List.setIfInBounds_toArray, List.set_cons_zero, List.set_cons_succ])
                  refine stepL 8 rfl (by kernel_rfl) (fun K hK => ?_)
                  go_simp
                  refine hK.out _ _ ?_ (fun hHeld => ?_)
                  · trivial
                  clear hK K
                  (try simp only [Act.put, List.setIfInBounds_toArray, List.set_cons_zero, List.set_cons_succ])
                  (refine anyH_world (fun w1 e1 => ?_); replace hM := hM.var e1; clear e1)
                  refine stepL 9 rfl (by kernel_rfl) (fun K hK => ?_)
                  (rw [if_pos (by rfl)]; refine wp_store_row 167 _ _ (by rfl) _ (fv cs) (by rfl) (by rfl) 167 _ (hM.num _ rfl).2.1 (by rw [fv_size, hcs]; exact hi5) (by rw [fv_size, fv_size, hcs]; rfl) (fv_one cs) ?_)
                  refine hK.out _ _ ?_ (fun hHeld => ?_)
                  · trivial
                  clear hK K
                  (try simp only [Act.put, List.setIfInBounds_toArray, List.set_cons_zero, List.set_cons_succ])
                  refine wpAnyH_done (by kernel_rfl) ?_ _
                  refine NoPanic.normal ?_
                  refine ⟨rfl, ?_⟩
                  iterate 9 apply Exists.intro
                  refine ⟨?_, hM.done hcs⟩
                  try simp only [Act.put, List.setIfInBounds_toArray, List.set_cons_zero, List.set_cons_succ]
                  rfl
                refine consL 8 rfl ?_ (fun K hK => ?_)
                rotate_left
                · skip
                  go_simp
                  refine hK.out _ _ ?_ (fun hHeld => ?_)
                  · trivial
                  clear hK K
                  (try simp only [Act.put, List.setIfInBounds_toArray, List.set_cons_zero, List.set_cons_succ])
                  (refine anyH_world (fun w1 e1 => ?_); replace hM := hM.var e1; clear e1)
                  refine stepL 7 rfl (by kernel_rfl) (fun K hK => ?_)
                  (go_simp; go_at_call 100; refine (of_bytes _ 0 n2 17 _ (of_len htl hm16) (of_top htl hm16) _ (of_bt htl hm16 hn2.out hM)).mono ?_; rintro e w1 ⟨⟨cs, hcs, rfl⟩, hb⟩; replace hM := hM.on hb; clear hb)
                  refine hK.out _ _ ?_ (fun hHeld => ?_)
                  · trivial
                  clear hK K
                  (try simp only [Act.put, List.setIfInBounds_toArray, List.set_cons_zero, List.set_cons_succ])
                  refine stepL 9 rfl (by kernel_rfl) (fun K hK => ?_)
                  (rw [if_pos (by rfl)]; refine wp_store_row 167 _ _ (by rfl) _ (fv cs) (by rfl) (by rfl) 167 _ (hM.num _ rfl).2.1 (by rw [fv_size, hcs]; exact hi5) (by rw [fv_size, fv_size, hcs]; rfl) (fv_one cs) ?_)
                  refine hK.out _ _ ?_ (fun hHeld => ?_)
                  · trivial
                  clear hK K
                  (try simp only [Act.put, List.setIfInBounds_toArray, List.set_cons_zero, List.set_cons_succ])
                  refine wpAnyH_done (by kernel_rfl) ?_ _
                  refine NoPanic.normal ?_
                  refine ⟨rfl, ?_⟩
                  iterate 9 apply Exists.intro
                  refine ⟨?_, hM.done hcs⟩
                  try simp only [Act.put, List.setIfInBounds_toArray, List.set_cons_zero, List.set_cons_succ]
                  rfl
                exact AllReadyH.nil
              refine consL 8 rfl ?_ (fun K hK => ?_)
              rotate_left
              · skip
                go_simp
                refine hK.out _ _ ?_ (fun hHeld => ?_)
                · trivial
                clear hK K
                (try simp only [Act.put, List.setIfInBounds_toArray, List.set_cons_zero, List.set_cons_succ])
                (refine anyH_world (fun w1 e1 => ?_); replace hM := hM.var e1; clear e1)
                refine stepL 6 rfl (by kernel_rfl) (fun K hK => ?_)
                (refine step_app _ (by rfl) _ _ 24 (by rfl) i0 Try.underlying24 hi hz1 hM n1 hn1.out (by rfl) _ 0 1 1 [1] (by rfl) hM.bt1 (by simp) (by simp; omega) ?_; intro w1 n2 hn2 hM1; replace hM := hM1; replace hn2 := Lib.hid hn2)
                refine hK.out _ _ ?_ (fun hHeld => ?_)
                · trivial
                clear hK K
                (try simp only [Act.put, List.setIfInBounds_toArray, List.set_cons_zero, List.set_cons_succ])
                refine stepL 7 rfl (by kernel_rfl) (fun K hK => ?_)
                (go_simp; go_at_call 100; refine (of_bytes _ 0 n2 17 _ (of_len htl hm16) (of_top htl hm16) _ (of_bt htl hm16 hn2.out hM)).mono ?_; rintro e w1 ⟨⟨cs, hcs, rfl⟩, hb⟩; replace hM := hM.on hb; clear hb)
                refine hK.out _ _ ?_ (fun hHeld => ?_)
                · trivial
                clear hK K
                (try simp only [Act.put, List.setIfInBounds_toArray, List.set_cons_zero, List.set_cons_succ])
                refine stepL 9 rfl (by kernel_rfl) (fun K hK => ?_)
                (rw [if_pos (by rfl)]; refine wp_store_row 167 _ _ (by rfl) _ (fv cs) (by rfl) (by rfl) 167 _ (hM.num _ rfl).2.1 (by rw [fv_size, hcs]; exact hi5) (by rw [fv_size, fv_size, hcs]; rfl) (fv_one cs) ?_)
                refine hK.out _ _ ?_ (fun hHeld => ?_)
                · trivial
                clear hK K
                (try simp only [Act.put, List.setIfInBounds_toArray, List.set_cons_zero, List.set_cons_succ])
                refine wpAnyH_done (by kernel_rfl) ?_ _
                refine NoPanic.normal ?_
                refine ⟨rfl, ?_⟩
                iterate 9 apply Exists.intro
                refine ⟨?_, hM.done hcs⟩
                try simp only [Act.put, List.setIfInBounds_toArray, List.set_cons_zero, List.set_cons_succ]
                rfl
              exact AllReadyH.nil
            refine consL 8 rfl ?_ (fun K hK => ?_)
            rotate_left
            · skip
              go_simp
              refine hK.out _ _ ?_ (fun hHeld => ?_)
              · trivial
              clear hK K
              (try simp only [Act.put, List.setIfInBounds_toArray, List.set_cons_zero, List.set_cons_succ])
              (refine anyH_world (fun w1 e1 => ?_); replace hM := hM.var e1; clear e1)
              refine stepL 4 rfl (by kernel_rfl) (fun K hK => ?_)
              (refine step_app _ (by rfl) _ _ 24 (by rfl) i0 Try.underlying24 hi hz1 hM 0 rfl (by rfl) tb off m cap (l2.take m) (by rfl) (HT hM.bel) (by omega) (by simp; omega) ?_; intro w1 n1 hn1 hM1; replace hM := hM1; replace hn1 := Lib.hid hn1)
              refine hK.out _ _ ?_ (fun hHeld => ?_)
              · trivial
              clear hK K
              (try simp only [Act.put, List.setIfInBounds_toArray, List.set_cons_zero, List.set_cons_succ])
              refine stepL 6 rfl (by kernel_rfl) (fun K hK => ?_)
              (refine step_app _ (by rfl) _ _ 24 (by rfl) i0 Try.underlying24 hi hz1 hM n1 hn1.out (by rfl) _ 0 1 1 [1] (by rfl) hM.bt1 (by simp) (by simp; omega) ?_; intro w1 n2 hn2 hM1; replace hM := hM1; replace hn2 := Lib.hid hn2)
              refine hK.out _ _ ?_ (fun hHeld => ?_)
              · trivial
              clear hK K
              (try simp only [Act.put, List.setIfInBounds_toArray, List.set_cons_zero, List.set_cons_succ])
              refine stepL 7 rfl (by kernel_rfl) (fun K hK => ?_)
              (go_simp; go_at_call 100; refine (of_bytes _ 0 n2 17 _ (of_len htl hm16) (of_top htl hm16) _ (of_bt htl hm16 hn2.out hM)).mono ?_; rintro e w1 ⟨⟨cs, hcs, rfl⟩, hb⟩; replace hM := hM.on hb; clear hb)
              refine hK.out _ _ ?_ (fun hHeld => ?_)
              · trivial
              clear hK K
              (try simp only [Act.put, List.setIfInBounds_toArray, List.set_cons_zero, List.set_cons_succ])
              refine stepL 9 rfl (by kernel_rfl) (fun K hK => ?_)
              (rw [if_pos (by rfl)]; refine wp_store_row 167 _ _ (by rfl) _ (fv cs) (by rfl) (by rfl) 167 _ (hM.num _ rfl).2.1 (by rw [fv_size, hcs]; exact hi5) (by rw [fv_size, fv_size, hcs]; rfl) (fv_one cs) ?_)
              refine hK.out _ _ ?_ (fun hHeld => ?_)
              · trivial
              clear hK K
              (try simp only [Act.put, List.setIfInBounds_toArray, List.set_cons_zero, List.set_cons_succ])
              refine wpAnyH_done (by kernel_rfl) ?_ _
              refine NoPanic.normal ?_
              refine ⟨rfl, ?_⟩
              iterate 9 apply Exists.intro
              refine ⟨?_, hM.done hcs⟩
              try simp only [Act.put, List.setIfInBounds_toArray, List.set_cons_zero, List.set_cons_succ]
              rfl
            exact AllReadyH.nil
          refine consL 8 rfl ?_ (fun K hK => ?_)
          rotate_left
          · skip
            go_simp
            refine hK.out _ _ ?_ (fun hHeld => ?_)
            · trivial
            clear hK K
            (try simp only [Act.put, List.setIfInBounds_toArray, List.set_cons_zero, List.set_cons_succ])
            (refine anyH_world (fun w1 e1 => ?_); replace hM := hM.var e1; clear e1)
            refine wpAnyH_ready (rs := [4, 5]) (by kernel_rfl) (by simp) ?_
            refine consL 4 rfl ?_ (fun K hK => ?_)
            rotate_left
            · skip
              (refine step_app _ (by rfl) _ _ 24 (by rfl) i0 Try.underlying24 hi hz1 hM 0 rfl (by rfl) tb off m cap (l2.take m) (by rfl) (HT hM.bel) (by omega) (by simp; omega) ?_; intro w1 n1 hn1 hM1; replace hM := hM1; replace hn1 := Lib.hid hn1)
              refine hK.out _ _ ?_ (fun hHeld => ?_)
              · trivial
              clear hK K
              (try simp only [Act.put, List.setIfInBounds_toArray, List.set_cons_zero, List.set_cons_succ])
              refine stepL 5 rfl (by kernel_rfl) (fun K hK => ?_)
              go_simp
              refine hK.out _ _ ?_ (fun hHeld => ?_)
              · trivial
              clear hK K
              (try simp only [Act.put, List.setIfInBounds_toArray, List.set_cons_zero, List.set_cons_succ])
              (refine anyH_world (fun w1 e1 => ?_); replace hM := hM.lit e1; clear e1)
              refine stepL 6 rfl (by kernel_rfl) (fun K hK => ?_)
              (refine step_app _ (by rfl) _ _ 24 (by rfl) i0 Try.underlying24 hi hz1 hM n1 hn1.out (by rfl) _ 0 1 1 [1] (by rfl) hM.bt1 (by simp) (by simp; omega) ?_; intro w1 n2 hn2 hM1; replace hM := hM1; replace hn2 := Lib.hid hn2)
              refine hK.out _ _ ?_ (fun hHeld => ?_)
              · trivial
              clear hK K
              (try simp only [Act.put, List.setIfInBounds_toArray, List.set_cons_zero, List.set_cons_succ])
              refine stepL 7 rfl (by kernel_rfl) (fun K hK => ?_)
              (go_simp; go_at_call 100; refine (of_bytes _ 0 n2 17 _ (of_len htl hm16) (of_top htl hm16) _ (of_bt htl hm16 hn2.out hM)).mono ?_; rintro e w1 ⟨⟨cs, hcs, rfl⟩, hb⟩; replace hM := hM.on hb; clear hb)
              refine hK.out _ _ ?_ (fun hHeld => ?_)
              · trivial
              clear hK K
              (try simp only [Act.put, List.setIfInBounds_toArray, List.set_cons_zero, List.set_cons_succ])
              refine stepL 9 rfl (by kernel_rfl) (fun K hK => ?_)
              (rw [if_pos (by rfl)]; refine wp_store_row 167 _ _ (by rfl) _ (fv cs) (by rfl) (by rfl) 167 _ (hM.num _ rfl).2.1 (by rw [fv_size, hcs]; exact hi5) (by rw [fv_size, fv_size, hcs]; rfl) (fv_one cs) ?_)
              refine hK.out _ _ ?_ (fun hHeld => ?_)
              · trivial
              clear hK K
              (try simp only [Act.put, List.setIfInBounds_toArray, List.set_cons_zero, List.set_cons_succ])
              refine wpAnyH_done (by kernel_rfl) ?_ _
              refine NoPanic.normal ?_
              refine ⟨rfl, ?_⟩
              iterate 9 apply Exists.intro
              refine ⟨?_, hM.done hcs⟩
              try simp only [Act.put, List.setIfInBounds_toArray, List.set_cons_zero, List.set_cons_succ]
              rfl
            refine consL 5 rfl ?_ (fun K hK => ?_)
            rotate_left
            · skip
              go_simp
              refine hK.out _ _ ?_ (fun hHeld => ?_)
              · trivial
              clear hK K
              (try simp only [Act.put, List.setIfInBounds_toArray, List.set_cons_zero, List.set_cons_succ])
              (refine anyH_world (fun w1 e1 => ?_); replace hM := hM.lit e1; clear e1)
              refine stepL 4 rfl (by kernel_rfl) (fun K hK => ?_)
              (refine step_app _ (by rfl) _ _ 24 (by rfl) i0 Try.underlying24 hi hz1 hM 0 rfl (by rfl) tb off m cap (l2.take m) (by rfl) (HT hM.bel) (by omega) (by simp; omega) ?_; intro w1 n1 hn1 hM1; replace hM := hM1; replace hn1 := Lib.hid hn1)
              refine hK.out _ _ ?_ (fun hHeld => ?_)
              · trivial
              clear hK K
              (try simp only [Act.put, List.setIfInBounds_toArray, List.set_cons_zero, List.set_cons_succ])
              refine stepL 6 rfl (by kernel_rfl) (fun K hK => ?_)
              (refine step_app _ (by rfl) _ _ 24 (by rfl) i0 Try.underlying24 hi hz1 hM n1 hn1.out (by rfl) _ 0 1 1 [1] (by rfl) hM.bt1 (by simp) (by simp; omega) ?_; intro w1 n2 hn2 hM1; replace hM := hM1; replace hn2 := Lib.hid hn2)
              refine hK.out _ _ ?_ (fun hHeld => ?_)
              · trivial
              clear hK K
              (try simp only [Act.put, List.setIfInBounds_toArray, List.set_cons_zero, List.set_cons_succ])
              refine stepL 7 rfl (by kernel_rfl) (fun K hK => ?_)
              (go_simp; go_at_call 100; refine (of_bytes _ 0 n2 17 _ (of_len htl hm16) (of_top htl hm16) _ (of_bt htl hm16 hn2.out hM)).mono ?_; rintro e w1 ⟨⟨cs, hcs, rfl⟩, hb⟩; replace hM := hM.on hb; clear hb)
              refine hK.out _ _ ?_ (fun hHeld => ?_)
              · trivial
              clear hK K
              (try simp only [Act.put, List.setIfInBounds_toArray, List.set_cons_zero, List.set_cons_succ])
              refine stepL 9 rfl (by kernel_rfl) (fun K hK => ?_)
              (rw [if_pos (by rfl)]; refine wp_store_row 167 _ _ (by rfl) _ (fv cs) (by rfl) (by rfl) 167 _ (hM.num _ rfl).2.1 (by rw [fv_size, hcs]; exact hi5) (by rw [fv_size, fv_size, hcs]; rfl) (fv_one cs) ?_)
              refine hK.out _ _ ?_ (fun hHeld => ?_)
              · trivial
              clear hK K
              (try simp only [Act.put, List.setIfInBounds_toArray, List.set_cons_zero, List.set_cons_succ])
              refine wpAnyH_done (by kernel_rfl) ?_ _
              refine NoPanic.normal ?_
              refine ⟨rfl, ?_⟩
              iterate 9 apply Exists.intro
              refine ⟨?_, hM.done hcs⟩
              try simp only [Act.put, List.setIfInBounds_toArray, List.set_cons_zero, List.set_cons_succ]
              rfl
            exact AllReadyH.nil
          exact AllReadyH.nil
        refine consL 5 rfl ?_ (fun K hK => ?_)
        rotate_left
        · skip
          go_simp
          refine hK.out _ _ ?_ (fun hHeld => ?_)
          · trivial
          clear hK K
          (try simp only [Act.put, List.setIfInBounds_toArray, List.set_cons_zero, List.set_cons_succ])
          (refine anyH_world (fun w1 e1 => ?_); replace hM := hM.lit e1; clear e1)
          refine wpAnyH_ready (rs := [0, 8]) (by kernel_rfl) (by simp) ?_
          refine consL 0 rfl ?_ (fun K hK => ?_)
          rotate_left
          · skip
            go_simp
            refine hK.out _ _ ?_ (fun hHeld => ?_)
            · trivial
            clear hK K
            (try simp only [Act.put, List.setIfInBounds_toArray, List.set_cons_zero, List.set_cons_succ])
            (refine anyH_world (fun w1 e1 => ?_); replace hM := hM.make e1 rfl; clear e1)
            refine wpAnyH_ready (rs := [4, 8]) (by kernel_rfl) (by simp) ?_
            refine consL 4 rfl ?_ (fun K hK => ?_)
            rotate_left
            · skip
              (refine step_app _ (by rfl) _ _ 24 (by rfl) i0 Try.underlying24 hi hz1 hM 0 rfl (by rfl) tb off m cap (l2.take m) (by rfl) (HT hM.bel) (by omega) (by simp; omega) ?_; intro w1 n1 hn1 hM1; replace hM := hM1; replace hn1 := Lib.hid hn1)
              refine hK.out _ _ ?_ (fun hHeld => ?_)
              · trivial
              clear hK K
              (try simp only [Act.put, List.setIfInBounds_toArray, List.set_cons_zero, List.set_cons_succ])
              refine wpAnyH_ready (rs := [6, 8]) (by kernel_rfl) (by simp) ?_
              refine consL 6 rfl ?_ (fun K hK => ?_)
              rotate_left
              · skip
                (refine step_app _ (by rfl) _ _ 24 (by rfl) i0 Try.underlying24 hi hz1 hM n1 hn1.out (by rfl) _ 0 1 1 [1] (by rfl) hM.bt1 (by simp) (by simp; omega) ?_; intro w1 n2 hn2 hM1; replace hM := hM1; replace hn2 := Lib.hid hn2)
                refine hK.out _ _ ?_ (fun hHeld => ?_)
                · trivial
                clear hK K
                (try simp only [Act.put, List.setIfInBounds_toArray, List.set_cons_zero, List.set_cons_succ])
                refine wpAnyH_ready (rs := [7, 8]) (by kernel_rfl) (by simp) ?_
                refine consL 7 rfl ?_ (fun K hK => ?_)
                rotate_left
                · skip
                  (go_simp; go_at_call 100; refine (of_bytes _ 0 n2 17 _ (of_len htl hm16) (of_top htl hm16) _ (of_bt htl hm16 hn2.out hM)).mono ?_; rintro e w1 ⟨⟨cs, hcs, rfl⟩, hb⟩; replace hM := hM.on hb; clear hb)
                  refine hK.out _ _ ?_ (fun hHeld => ?_)
                  · trivial
                  clear hK K
                  (try simp only [Act.put, List.setIfInBounds_toArray, List.set_cons_zero, List.set_cons_succ])
                  refine stepL 8 rfl (by kernel_rfl) (fun K hK => ?_)
                  go_simp
                  refine hK.out _ _ ?_ (fun hHeld => ?_)
                  · trivial
                  clear hK K
                  (try simp only [Act.put, List.setIfInBounds_toArray, List.set_cons_zero, List.set_cons_succ])
                  (refine anyH_world (fun w1 e1 => ?_); replace hM := hM.var e1; clear e1)
                  refine stepL 9 rfl (by kernel_rfl) (fun K hK => ?_)
                  (rw [if_pos (by rfl)]; refine wp_store_row 167 _ _ (by rfl) _ (fv cs) (by rfl) (by rfl) 167 _ (hM.num _ rfl).2.1 (by rw [fv_size, hcs]; exact hi5) (by rw [fv_size, fv_size, hcs]; rfl) (fv_one cs) ?_)
                  refine hK.out _ _ ?_ (fun hHeld => ?_)
                  · trivial
                  clear hK K
                  (try simp only [Act.put, List.setIfInBounds_toArray, List.set_cons_zero, List.set_cons_succ])
                  refine wpAnyH_done (by kernel_rfl) ?_ _
                  refine NoPanic.normal ?_
                  refine ⟨rfl, ?_⟩
                  iterate 9 apply Exists.intro
                  refine ⟨?_, hM.done hcs⟩
                  try simp only [Act.put, List.setIfInBounds_toArray, List.set_cons_zero, List.set_cons_succ]
                  rfl
                refine consL 8 rfl ?_ (fun K hK => ?_)
                rotate_left
                · skip
                  go_simp
                  refine hK.out _ _ ?_ (fun hHeld => ?_)
                  · trivial
                  clear hK K
                  (try simp only [Act.put, List.setIfInBounds_toArray, List.set_cons_zero, List.set_cons_succ])
                  (refine anyH_world (fun w1 e1 => ?_); replace hM := hM.var e1; clear e1)
                  refine stepL 7 rfl (by kernel_rfl) (fun K hK => ?_)
                  (go_simp; go_at_call 100; refine (of_bytes _ 0 n2 17 _ (of_len htl hm16) (of_top htl hm16) _ (of_bt htl hm16 hn2.out hM)).mono ?_; rintro e w1 ⟨⟨cs, hcs, rfl⟩, hb⟩; replace hM := hM.on hb; clear hb)
                  refine hK.out _ _ ?_ (fun hHeld => ?_)
                  · trivial
                  clear hK K
                  (try simp only [Act.put, List.setIfInBounds_toArray, List.set_cons_zero, List.set_cons_succ])
                  refine stepL 9 rfl (by kernel_rfl) (fun K hK => ?_)
                  (rw [if_pos (by rfl)]; refine wp_store_row 167 _ _ (by rfl) _ (fv cs) (by rfl) (by rfl) 167 _ (hM.num _ rfl).2.1 (by rw [fv_size, hcs]; exact hi5) (by rw [fv_size, fv_size, hcs]; rfl) (fv_one cs) ?_)
                  refine hK.out _ _ ?_ (fun hHeld => ?_)
                  · trivial
                  clear hK K
                  (try simp only [Act.put, List.setIfInBounds_toArray, List.set_cons_zero, List.set_cons_succ])
                  refine wpAnyH_done (by kernel_rfl) ?_ _
                  refine NoPanic.normal ?_
                  refine ⟨rfl, ?_⟩
                  iterate 9 apply Exists.intro
                  refine ⟨?_, hM.done hcs⟩
                  try simp only [Act.put, List.setIfInBounds_toArray, List.set_cons_zero, List.set_cons_succ]
                  rfl
                exact AllReadyH.nil
              refine consL 8 rfl ?_ (fun K hK => ?_)
              rotate_left
              · skip
                go_simp
                refine hK.out _ _ ?_ (fun hHeld => ?_)
                · trivial
                clear hK K
                (try simp only [Act.put, List.setIfInBounds_toArray, List.set_cons_zero, List.set_cons_succ])
                (refine anyH_world (fun w1 e1 => ?_); replace hM := hM.var e1; clear e1)
                refine stepL 6 rfl (by kernel_rfl) (fun K hK => ?_)
                (refine step_app _ (by rfl) _ _ 24 (by rfl) i0 Try.underlying24 hi hz1 hM n1 hn1.out (by rfl) _ 0 1 1 [1] (by rfl) hM.bt1 (by simp) (by simp; omega) ?_; intro w1 n2 hn2 hM1; replace hM := hM1; replace hn2 := Lib.hid hn2)
                refine hK.out _ _ ?_ (fun hHeld => ?_)
                · trivial
                clear hK K
                (try simp only [Act.put, List.setIfInBounds_toArray, List.set_cons_zero, List.set_cons_succ])
                refine stepL 7 rfl (by kernel_rfl) (fun K hK => ?_)
                (go_simp; go_at_call 100; refine (of_bytes _ 0 n2 17 _ (of_len htl hm16) (of_top htl hm16) _ (of_bt htl hm16 hn2.out hM)).mono ?_; rintro e w1 ⟨⟨cs, hcs, rfl⟩, hb⟩; replace hM := hM.on hb; clear hb)
                refine hK.out _ _ ?_ (fun hHeld => ?_)
                · trivial
                clear hK K
                (try simp only [Act.put, List.setIfInBounds_toArray, List.set_cons_zero, List.set_cons_succ])
                refine stepL 9 rfl (by kernel_rfl) (fun K hK => ?_)
                (rw [if_pos (by rfl)]; refine wp_store_row 167 _ _ (by rfl) _ (fv cs) (by rfl) (by rfl) 167 _ (hM.num _ rfl).2.1 (by rw [fv_size, hcs]; exact hi5) (by rw [fv_size, fv_size, hcs]; rfl) (fv_one cs) ?_)
                refine hK.out _ _ ?_ (fun hHeld => ?_)
                · trivial
                clear hK K
                (try simp only [Act.put, List.setIfInBounds_toArray, List.set_cons_zero, List.set_cons_succ])
                refine wpAnyH_done (by kernel_rfl) ?_ _
                refine NoPanic.normal ?_
                refine ⟨rfl, ?_⟩
                iterate 9 apply Exists.intro
                refine ⟨?_, hM.done hcs⟩
                try simp only [Act.put, List.setIfInBounds_toArray, List.set_cons_zero, List.set_cons_succ]
                rfl
              exact AllReadyH.nil
            refine consL 8 rfl ?_ (fun K hK => ?_)
            rotate_left
            · skip
              go_simp
              refine hK.out _ _ ?_ (fun hHeld => ?_)
              · trivial
              clear hK K
              (try simp only [Act.put, List.setIfInBounds_toArray, List.set_cons_zero, List.set_cons_succ])
              (refine anyH_world (fun w1 e1 => ?_); replace hM := hM.var e1; clear e1)
              refine stepL 4 rfl (by kernel_rfl) (fun K hK => ?_)
              (refine step_app _ (by rfl) _ _ 24 (by rfl) i0 Try.underlying24 hi hz1 hM 0 rfl (by rfl) tb off m cap (l2.take m) (by rfl) (HT hM.bel) (by omega) (by simp; omega) ?_; intro w1 n1 hn1 hM1; replace hM := hM1; replace hn1 := Lib.hid hn1)
              refine hK.out _ _ ?_ (fun hHeld => ?_)
              · trivial
              clear hK K
              (try simp only [Act.put, List.setIfInBounds_toArray, List.set_cons_zero, List.set_cons_succ])
              refine stepL 6 rfl (by kernel_rfl) (fun K hK => ?_)
              (refine step_app _ (by rfl) _ _ 24 (by rfl) i0 Try.underlying24 hi hz1 hM n1 hn1.out (by rfl) _ 0 1 1 [1] (by rfl) hM.bt1 (by simp) (by simp; omega) ?_; intro w1 n2 hn2 hM1; replace hM := hM1; replace hn2 := Lib.hid hn2)
              refine hK.out _ _ ?_ (fun hHeld => ?_)
              · trivial
              clear hK K
              (try simp only [Act.put, List.setIfInBounds_toArray, List.set_cons_zero, List.set_cons_succ])
              refine stepL 7 rfl (by kernel_rfl) (fun K hK => ?_)
              (go_simp; go_at_call 100; refine (of_bytes _ 0 n2 17 _ (of_len htl hm16) (of_top htl hm16) _ (of_bt htl hm16 hn2.out hM)).mono ?_; rintro e w1 ⟨⟨cs, hcs, rfl⟩, hb⟩; replace hM := hM.on hb; clear hb)
              refine hK.out _ _ ?_ (fun hHeld => ?_)
              · trivial
              clear hK K
              (try simp only [Act.put, List.setIfInBounds_toArray, List.set_cons_zero, List.set_cons_succ])
              refine stepL 9 rfl (by kernel_rfl) (fun K hK => ?_)
              (rw [if_pos (by rfl)]; refine wp_store_row 167 _ _ (by rfl) _ (fv cs) (by rfl) (by rfl) 167 _ (hM.num _ rfl).2.1 (by rw [fv_size, hcs]; exact hi5) (by rw [fv_size, fv_size, hcs]; rfl) (fv_one cs) ?_)
              refine hK.out _ _ ?_ (fun hHeld => ?_)
              · trivial
              clear hK K
              (try simp only [Act.put, List.setIfInBounds_toArray, List.set_cons_zero, List.set_cons_succ])
              refine wpAnyH_done (by kernel_rfl) ?_ _
              refine NoPanic.normal ?_
              refine ⟨rfl, ?_⟩
              iterate 9 apply Exists.intro
              refine ⟨?_, hM.done hcs⟩
              try simp only [Act.put, List.setIfInBounds_toArray, List.set_cons_zero, List.set_cons_succ]
              rfl
            exact AllReadyH.nil
          refine consL 8 rfl ?_ (fun K hK => ?_)
          rotate_left
          · skip
            go_simp
            refine hK.out _ _ ?_ (fun hHeld => ?_)
            · trivial
            clear hK K
            (try simp only [Act.put, List.setIfInBounds_toArray, List.set_cons_zero, List.set_cons_succ])
            (refine anyH_world (fun w1 e1 => ?_); replace hM := hM.var e1; clear e1)
            refine stepL 0 rfl (by kernel_rfl) (fun K hK => ?_)
            go_simp
            refine hK.out _ _ ?_ (fun hHeld => ?_)
            · trivial
            clear hK K
            (try simp only [Act.put, List.setIfInBounds_toArray, List.set_cons_zero, List.set_cons_succ])
            (refine anyH_world (fun w1 e1 => ?_); replace hM := hM.make e1 rfl; clear e1)
            refine stepL 4 rfl (by kernel_rfl) (fun K hK => ?_)
            (refine step_app _ (by rfl) _ _ 24 (by rfl) i0 Try.underlying24 hi hz1 hM 0 rfl (by rfl) tb off m cap (l2.take m) (by rfl) (HT hM.bel) (by omega) (by simp; omega) ?_; intro w1 n1 hn1 hM1; replace hM := hM1; replace hn1 := Lib.hid hn1)
            refine hK.out _ _ ?_ (fun hHeld => ?_)
            · trivial
            clear hK K
            (try simp only [Act.put, List.setIfInBounds_toArray, List.set_cons_zero, List.set_cons_succ])
            refine stepL 6 rfl (by kernel_rfl) (fun K hK => ?_)
            (refine step_app _ (by rfl) _ _ 24 (by rfl) i0 Try.underlying24 hi hz1 hM n1 hn1.out (by rfl) _ 0 1 1 [1] (by rfl) hM.bt1 (by simp) (by simp; omega) ?_; intro w1 n2 hn2 hM1; replace hM := hM1; replace hn2 := Lib.hid hn2)
            refine hK.out _ _ ?_ (fun hHeld => ?_)
            · trivial
            clear hK K
            (try simp only [Act.put, List.setIfInBounds_toArray, List.set_cons_zero, List.set_cons_succ])
            refine stepL 7 rfl (by kernel_rfl) (fun K hK => ?_)
            (go_simp; go_at_call 100; refine (of_bytes _ 0 n2 17 _ (of_len htl hm16) (of_top htl hm16) _ (of_bt htl hm16 hn2.out hM)).mono ?_; rintro e w1 ⟨⟨cs, hcs, rfl⟩, hb⟩; replace hM := hM.on hb; clear hb)
            refine hK.out _ _ ?_ (fun hHeld => ?_)
            · trivial
            clear hK K
            (try simp only [Act.put, List.setIfInBounds_toArray, List.set_cons_zero, List.set_cons_succ])
            refine stepL 9 rfl (by kernel_rfl) (fun K hK => ?_)
            (rw [if_pos (by rfl)]; refine wp_store_row 167 _ _ (by rfl) _ (fv cs) (by rfl) (by rfl) 167 _ (hM.num _ rfl).2.1 (by rw [fv_size, hcs]; exact hi5) (by rw [fv_size, fv_size, hcs]; rfl) (fv_one cs) ?_)
            refine hK.out _ _ ?_ (fun hHeld => ?_)
            · trivial
            clear hK K
            (try simp only [Act.put, List.setIfInBounds_toArray, List.set_cons_zero, List.set_cons_succ])
            refine wpAnyH_done (by kernel_rfl) ?_ _
            refine NoPanic.normal ?_
            refine ⟨rfl, ?_⟩
            iterate 9 apply Exists.intro
            refine ⟨?_, hM.done hcs⟩
            try simp only [Act.put, List.setIfInBounds_toArray, List.set_cons_zero, List.set_cons_succ]
            rfl
          exact AllReadyH.nil
        refine consL 8 rfl ?_ (fun K hK => ?_)
        rotate_left
        · skip
          go_simp
          refine hK.out _ _ ?_ (fun hHeld => ?_)
          · trivial
          clear hK K
          (try simp only [Act.put, List.setIfInBounds_toArray, List.set_cons_zero, List.set_cons_succ])
          (refine anyH_world (fun w1 e1 => ?_); replace hM := hM.var e1; clear e1)
          refine wpAnyH_ready (rs := [0, 5]) (by kernel_rfl) (by simp) ?_
          refine consL 0 rfl ?_ (fun K hK => ?_)
          rotate_left
          · skip
            go_simp
            refine hK.out _ _ ?_ (fun hHeld => ?_)
            · trivial
            clear hK K
            (try simp only [Act.put, List.setIfInBounds_toArray, List.set_cons_zero, List.set_cons_succ])
            (refine anyH_world (fun w1 e1 => ?_); replace hM := hM.make e1 rfl; clear e1)
            refine wpAnyH_ready (rs := [4, 5]) (by kernel_rfl) (by simp) ?_
            refine consL 4 rfl ?_ (fun K hK => ?_)
            rotate_left
            · skip
              (refine step_app _ (by rfl) _ _ 24 (by rfl) i0 Try.underlying24 hi hz1 hM 0 rfl (by rfl) tb off m cap (l2.take m) (by rfl) (HT hM.bel) (by omega) (by simp; omega) ?_; intro w1 n1 hn1 hM1; replace hM := hM1; replace hn1 := Lib.hid hn1)
              refine hK.out _ _ ?_ (fun hHeld => ?_)
              · trivial
              clear hK K
              (try simp only [Act.put, List.setIfInBounds_toArray, List.set_cons_zero, List.set_cons_succ])
              refine stepL 5 rfl (by kernel_rfl) (fun K hK => ?_)
              go_simp
              refine hK.out _ _ ?_ (fun hHeld => ?_)
              · trivial
              clear hK K
              (try simp only [Act.put, List.setIfInBounds_toArray, List.set_cons_zero, List.set_cons_succ])
              (refine anyH_world (fun w1 e1 => ?_); replace hM := hM.lit e1; clear e1)
              refine stepL 6 rfl (by kernel_rfl) (fun K hK => ?_)
              (refine step_app _ (by rfl) _ _ 24 (by rfl) i0 Try.underlying24 hi hz1 hM n1 hn1.out (by rfl) _ 0 1 1 [1] (by rfl) hM.bt1 (by simp) (by simp; omega) ?_; intro w1 n2 hn2 hM1; replace hM := hM1; replace hn2 := Lib.hid hn2)
              refine hK.out _ _ ?_ (fun hHeld => ?_)
              · trivial
              clear hK K
              (try simp only [Act.put, List.setIfInBounds_toArray, List.set_cons_zero, List.set_cons_succ])
              refine stepL 7 rfl (by kernel_rfl) (fun K hK => ?_)
              (go_simp; go_at_call 100; refine (of_bytes _ 0 n2 17 _ (of_len htl hm16) (of_top htl hm16) _ (of_bt htl hm16 hn2.out hM)).mono ?_; rintro e w1 ⟨⟨cs, hcs, rfl⟩, hb⟩; replace hM := hM.on hb; clear hb)
              refine hK.out _ _ ?_ (fun hHeld => ?_)
              · trivial
              clear hK K
              (try simp only [Act.put, List.setIfInBounds_toArray, List.set_cons_zero, List.set_cons_succ])
              refine stepL 9 rfl (by kernel_rfl) (fun K hK => ?_)
              (rw [if_pos (by rfl)]; refine wp_store_row 167 _ _ (by rfl) _ (fv cs) (by rfl) (by rfl) 167 _ (hM.num _ rfl).2.1 (by rw [fv_size, hcs]; exact hi5) (by rw [fv_size, fv_size, hcs]; rfl) (fv_one cs) ?_)
              refine hK.out _ _ ?_ (fun hHeld => ?_)
              · trivial
              clear hK K
              (try simp only [Act.put, List.setIfInBounds_toArray, List.set_cons_zero, List.set_cons_succ])
              refine wpAnyH_done (by kernel_rfl) ?_ _
              refine NoPanic.normal ?_
              refine ⟨rfl, ?_⟩
              iterate 9 apply Exists.intro
              refine ⟨?_, hM.done hcs⟩
              try simp only [Act.put, List.setIfInBounds_toArray, List.set_cons_zero, List.set_cons_succ]
              rfl
            refine consL 5 rfl ?_ (fun K hK => ?_)
            rotate_left
            · skip
              go_simp
              refine hK.out _ _ ?_ (fun hHeld => ?_)
              · trivial
              clear hK K
              (try simp only [Act.put, List.setIfInBounds_toArray, List.set_cons_zero, List.set_cons_succ])
              (refine anyH_world (fun w1 e1 => ?_); replace hM := hM.lit e1; clear e1)
              refine stepL 4 rfl (by kernel_rfl) (fun K hK => ?_)
              (refine step_app _ (by rfl) _ _ 24 (by rfl) i0 Try.underlying24 hi hz1 hM 0 rfl (by rfl) tb off m cap (l2.take m) (by rfl) (HT hM.bel) (by omega) (by simp; omega) ?_; intro w1 n1 hn1 hM1; replace hM := hM1; replace hn1 := Lib.hid hn1)
              refine hK.out _ _ ?_ (fun hHeld => ?_)
              · trivial
              clear hK K
              (try simp only [Act.put, List.setIfInBounds_toArray, List.set_cons_zero, List.set_cons_succ])
              refine stepL 6 rfl (by kernel_rfl) (fun K hK => ?_)
              (refine step_app _ (by rfl) _ _ 24 (by rfl) i0 Try.underlying24 hi hz1 hM n1 hn1.out (by rfl) _ 0 1 1 [1] (by rfl) hM.bt1 (by simp) (by simp; omega) ?_; intro w1 n2 hn2 hM1; replace hM := hM1; replace hn2 := Lib.hid hn2)
              refine hK.out _ _ ?_ (fun hHeld => ?_)
              · trivial
              clear hK K
              (try simp only [Act.put, List.setIfInBounds_toArray, List.set_cons_zero, List.set_cons_succ])
              refine stepL 7 rfl (by kernel_rfl) (fun K hK => ?_)
              (go_simp; go_at_call 100; refine (of_bytes _ 0 n2 17 _ (of_len htl hm16) (of_top htl hm16) _ (of_bt htl hm16 hn2.out hM)).mono ?_; rintro e w1 ⟨⟨cs, hcs, rfl⟩, hb⟩; replace hM := hM.on hb; clear hb)
              refine hK.out _ _ ?_ (fun hHeld => ?_)
              · trivial
              clear hK K
              (try simp only [Act.put, List.setIfInBounds_toArray, List.set_cons_zero, List.set_cons_succ])
              refine stepL 9 rfl (by kernel_rfl) (fun K hK => ?_)
              (rw [if_pos (by rfl)]; refine wp_store_row 167 _ _ (by rfl) _ (fv cs) (by rfl) (by rfl) 167 _ (hM.num _ rfl).2.1 (by rw [fv_size, hcs]; exact hi5) (by rw [fv_size, fv_size, hcs]; rfl) (fv_one cs) ?_)
              refine hK.out _ _ ?_ (fun hHeld => ?_)
              · trivial
              clear hK K
              (try simp only [Act.put, List.setIfInBounds_toArray, List.set_cons_zero, List.set_cons_succ])
              refine wpAnyH_done (by kernel_rfl) ?_ _
              refine NoPanic.normal ?_
              refine ⟨rfl, ?_⟩
              iterate 9 apply Exists.intro
              refine ⟨?_, hM.done hcs⟩
              try simp only [Act.put, List.setIfInBounds_toArray, List.set_cons_zero, List.set_cons_succ]
              rfl
            exact AllReadyH.nil
          refine consL 5 rfl ?_ (fun K hK => ?_)
          rotate_left
          · skip
            go_simp
            refine hK.out _ _ ?_ (fun hHeld => ?_)
            · trivial
            clear hK K
            (try simp only [Act.put, List.setIfInBounds_toArray, List.set_cons_zero, List.set_cons_succ])
            (refine anyH_world (fun w1 e1 => ?_); replace hM := hM.lit e1; clear e1)
            refine stepL 0 rfl (by kernel_rfl) (fun K hK => ?_)
            go_simp
            refine hK.out _ _ ?_ (fun hHeld => ?_)
            · trivial
            clear hK K
            (try simp only [Act.put, List.setIfInBounds_toArray, List.set_cons_zero, List.set_cons_succ])
            (refine anyH_world (fun w1 e1 => ?_); replace hM := hM.make e1 rfl; clear e1)
            refine stepL 4 rfl (by kernel_rfl) (fun K hK => ?_)
            (refine step_app _ (by rfl) _ _ 24 (by rfl) i0 Try.underlying24 hi hz1 hM 0 rfl (by rfl) tb off m cap (l2.take m) (by rfl) (HT hM.bel) (by omega) (by simp; omega) ?_; intro w1 n1 hn1 hM1; replace hM := hM1; replace hn1 := Lib.hid hn1)
            refine hK.out _ _ ?_ (fun hHeld => ?_)
            · trivial
            clear hK K
            (try simp only [Act.put, List.setIfInBounds_toArray, List.set_cons_zero, List.set_cons_succ])
            refine stepL 6 rfl (by kernel_rfl) (fun K hK => ?_)
            (refine step_app _ (by rfl) _ _ 24 (by rfl) i0 Try.underlying24 hi hz1 hM n1 hn1.out (by rfl) _ 0 1 1 [1] (by rfl) hM.bt1 (by simp) (by simp; omega) ?_; intro w1 n2 hn2 hM1; replace hM := hM1; replace hn2 := Lib.hid hn2)
            refine hK.out _ _ ?_ (fun hHeld => ?_)
            · trivial
            clear hK K
            (try simp only [Act.put, List.setIfInBounds_toArray, List.set_cons_zero, List.set_cons_succ])
            refine stepL 7 rfl (by kernel_rfl) (fun K hK => ?_)
            (go_simp; go_at_call 100; refine (of_bytes _ 0 n2 17 _ (of_len htl hm16) (of_top htl hm16) _ (of_bt htl hm16 hn2.out hM)).mono ?_; rintro e w1 ⟨⟨cs, hcs, rfl⟩, hb⟩; replace hM := hM.on hb; clear hb)
            refine hK.out _ _ ?_ (fun hHeld => ?_)
            · trivial
            clear hK K
            (try simp only [Act.put, List.setIfInBounds_toArray, List.set_cons_zero, List.set_cons_succ])
            refine stepL 9 rfl (by kernel_rfl) (fun K hK => ?_)
            (rw [if_pos (by rfl)]; refine wp_store_row 167 _ _ (by rfl) _ (fv cs) (by rfl) (by rfl) 167 _ (hM.num _ rfl).2.1 (by rw [fv_size, hcs]; exact hi5) (by rw [fv_size, fv_size, hcs]; rfl) (fv_one cs) ?_)
            refine hK.out _ _ ?_ (fun hHeld => ?_)
            · trivial
            clear hK K
            (try simp only [Act.put, List.setIfInBounds_toArray, List.set_cons_zero, List.set_cons_succ])
            refine wpAnyH_done (by kernel_rfl) ?_ _
            refine NoPanic.normal ?_
            refine ⟨rfl, ?_⟩
            iterate 9 apply Exists.intro
            refine ⟨?_, hM.done hcs⟩
            try simp only [Act.put, List.setIfInBounds_toArray, List.set_cons_zero, List.set_cons_succ]
            rfl
          exact AllReadyH.nil
        exact AllReadyH.nil
      · clear hM HT
        rintro k v27 v28 v29 v30 v31 v32 v33 v34 wk ⟨hk, ⟨cr, hcr, hgk⟩, hbk⟩
        simp only [Act.put, List.setIfInBounds_toArray, List.set_cons_zero, List.set_cons_succ]
        have hQs := HO.upto.bel.size
        rw [HS.out] at hQs
        have HOk := Lib.hid (HO.below (by have := HS.out; omega) hbk)
        have F0 : Five (P + 1) wk wk := ⟨HOk.out.blk, Upto.refl _ _⟩
        have hkP : k ≠ P + 1 := by omega
        have hks := block_lt hgk
        have HFk := Lib.hid F0
        have HGK := Lib.hid hgk
        have HCR := Lib.hid hcr
        have HK2 := Lib.hid (show wr.heap.size ≤ k ∧ k < wk.heap.size ∧ P + 1 + 1 ≤ wr.heap.size from ⟨hk, hks, hQs⟩)
        have HBK := Lib.hid hbk
        have HKP := Lib.hid hkP
        clear F0 HO hgk hcr hk hks hbk hQs hkP
        go_wp2_with fail
        go_loopw [10, 35] (fun _ i w2 => ∃ j : Nat, j ≤ 5 ∧ i = .int .i64 j ∧ Five (P + 1) wk w2) (fun _ i _ => 5 - (intOf i).toNat)
        case atStart => exact ⟨0, by omega, rfl, HFk.out⟩
        case round =>
          clear HFk
          obtain ⟨j, hj, rfl, HO⟩ := hrel
          by_cases hlt : j < 5
          · have hdj : decide ((j : Int) < 5) = true := decide_eq_true (by omega)
            have j1 : (0 : Int) ≤ (j : Int) := by omega
            have j2 : (j : Int) < 5 := by omega
            have e1 : IntKind.i64.wrap ((j : Int) + 1) = ((j + 1 : Nat) : Int) := (IntWalk.i64_in _ (by omega)).trans (by omega)
            rw [show ((j + 1 : Nat) : Int) = (j : Int) + 1 by omega] at e1
            obtain ⟨x, hx⟩ := HO.cell j hlt
            have hz := HO.thaw j
            have hgr := HO.upto.blk HKP.out HGK.out
            obtain ⟨y, hy⟩ : ∃ y : Int, wr.cell? ⟨k, j, none⟩ = some (.int .u64 y) := by
              refine ⟨cr[j]'(by have := HCR.out; omega), ?_⟩
              rw [cell_of_block hgr j]
              simp [fv, HCR.out, hlt]
            have gx : ∀ w, Same2 (P + 1) k wr w → w.cell? ⟨P + 1, j, none⟩ = some (.int .u64 x) := fun w hw => (World.cell?_of_block (a := ⟨P + 1, j, none⟩) hw.1).trans hx
            have gy : ∀ w, Same2 (P + 1) k wr w → w.cell? ⟨k, j, none⟩ = some (.int .u64 y) := fun w hw => (World.cell?_of_block (a := ⟨k, j, none⟩) hw.2).trans hy
            have HOO := Lib.hid HO
            clear HO hgr hy
            go_wp2_with fail
            refine wp_region_noPanic ?_
            refine wp_region_till (T := Same2 (P + 1) k wr) 8 (by kernel_rfl) ?_ (fun hTill => ?_)
            · exact ⟨rfl, rfl⟩
            refine takeM 0 (v := ?_) rfl (by kernel_rfl) (by kernel_rfl) (by kernel_rfl) (by kernel_rfl) (fun _ _ _ h => h) (Or.inl ⟨by rfl, ?_⟩) (by assumption) (fun hTill => ?_)
            rotate_left
            · (intro w hSw; go_simp; try with_reducible rfl)
            (try simp only [Act.put, List.setIfInBounds_toArray, List.set_cons_zero, List.set_cons_succ])
            refine takeM 1 (v := ?_) rfl (by kernel_rfl) (by kernel_rfl) (by kernel_rfl) (by kernel_rfl) (fun _ _ _ h => h) (Or.inl ⟨by rfl, ?_⟩) (by assumption) (fun hTill => ?_)
            rotate_left
            · (intro w hSw; go_simp; try with_reducible rfl)
            (try simp only [Act.put, List.setIfInBounds_toArray, List.set_cons_zero, List.set_cons_succ])
            refine takeT 2 (v := ?_) rfl (by kernel_rfl) (by kernel_rfl) (by kernel_rfl) (by kernel_rfl) (by kernel_rfl) (by kernel_rfl) (fun _ _ _ h => h) (Or.inl ⟨by rfl, ?_⟩) (by assumption) (fun hTill => ?_)
            rotate_left
            · (intro w hSw; go_simp; try with_reducible rfl)
            (try simp only [Act.put, List.setIfInBounds_toArray, List.set_cons_zero, List.set_cons_succ])
            refine takeM 3 (v := ?_) rfl (by kernel_rfl) (by kernel_rfl) (by kernel_rfl) (by kernel_rfl) (fun _ _ _ h => h) (Or.inl ⟨by rfl, ?_⟩) (by assumption) (fun hTill => ?_)
            rotate_left
            · (intro w hSw; go_simp; try with_reducible rfl)
            (try simp only [Act.put, List.setIfInBounds_toArray, List.set_cons_zero, List.set_cons_succ])
            refine takeM 4 (v := ?_) rfl (by kernel_rfl) (by kernel_rfl) (by kernel_rfl) (by kernel_rfl) (fun _ _ _ h => h) (Or.inl ⟨by rfl, ?_⟩) (by assumption) (fun hTill => ?_)
            rotate_left
            · (intro w hSw; go_simp; try with_reducible rfl)
            (try simp only [Act.put, List.setIfInBounds_toArray, List.set_cons_zero, List.set_cons_succ])
            refine takeT 5 (v := ?_) rfl (by kernel_rfl) (by kernel_rfl) (by kernel_rfl) (by kernel_rfl) (by kernel_rfl) (by kernel_rfl) (fun _ _ _ h => h) (Or.inl ⟨by rfl, ?_⟩) (by assumption) (fun hTill => ?_)
            rotate_left
            · (intro w hSw; go_simp; try with_reducible rfl)
            (try simp only [Act.put, List.setIfInBounds_toArray, List.set_cons_zero, List.set_cons_succ])
            refine takeM 6 (v := ?_) rfl (by kernel_rfl) (by kernel_rfl) (by kernel_rfl) (by kernel_rfl) (fun _ _ _ h => h) (Or.inl ⟨by rfl, ?_⟩) (by assumption) (fun hTill => ?_)
            rotate_left
            · (intro w hSw; go_simp; try with_reducible rfl)
            (try simp only [Act.put, List.setIfInBounds_toArray, List.set_cons_zero, List.set_cons_succ])
            refine takeM 7 (v := ?_) rfl (by kernel_rfl) (by kernel_rfl) (by kernel_rfl) (by kernel_rfl) (fun _ _ _ h => h) (Or.inl ⟨by rfl, ?_⟩) (by assumption) (fun hTill => ?_)
            rotate_left
            · (intro w hSw; go_simp; try with_reducible rfl)
            (try simp only [Act.put, List.setIfInBounds_toArray, List.set_cons_zero, List.set_cons_succ])
            refine stepM 8 rfl (by kernel_rfl) (fun K hK => ?_)
            go_simp
            refine hK.out _ _ ?_ (fun hTill => ?_)
            · exact till_over (by kernel_rfl)
            clear hK K
            (try simp only [Act.put, List.setIfInBounds_toArray, List.set_cons_zero, List.set_cons_succ])
            refine doneM (by kernel_rfl) ?_ _
            refine NoPanic.normal ?_
            clear gx gy
            go_wp2
            go_roundw
            case rel => exact ⟨j + 1, by omega, congrArg (Value.int .i64) (by omega), HOO.out.drew.set j _⟩
            case measure =>
              show 5 - ((j : Int) + 1).toNat < 5 - (j : Int).toNat
              omega
          · obtain ⟨⟨ca, hca, hga⟩, hupa⟩ := HO
            have hgp := hupa.blk (by omega) (blk_on (HOk.out.upto.blk (by omega) HGP.out) (Below.refl _ _))
            have ha5 : (Try.prog.info? 167).map (·.size) = some (ca.map (Value.int .u64)).length := by rw [List.length_map, hca]; exact hi5
            have hb5 : (Try.prog.info? 167).map (·.size) = some (cn.map (Value.int .u64)).length := by rw [List.length_map, HCN.out]; exact hi5
            have ra : ∀ w, Same2 (P + 1) P wr w → w.rangeAt (P + 1) 0 (ca.map (Value.int .u64)) := fun w hw => range_of_block (hw.1.trans hga)
            have rb : ∀ w, Same2 (P + 1) P wr w → w.rangeAt P 0 (cn.map (Value.int .u64)) := fun w hw => range_of_block (hw.2.trans hgp)
            have hbt2 := bt_cut HBL.out hml
            have hcut := fun w => run_cut_some w ⟨tb, off, none⟩ l2.length cap m hml hcap
            obtain ⟨v2, hv2⟩ : ∃ v2, Value.slice (if cap = m then some (⟨tb, off, none⟩ : Addr) else some ((⟨tb, off, none⟩ : Addr).add m)) (l2.length - m) (cap - m) = v2 := ⟨_, rfl⟩
            rw [hv2] at hbt2
            have hcut2 : ∀ w, (Instr.sliceAt 24 (.slice (some ⟨tb, off, none⟩) l2.length cap) (some (.int .i64 m)) none none).run Try.prog w = .ok v2 w := fun w => (hcut w).trans (by rw [hv2])
            have hlv2 : lenV v2 = l2.length - m := by rw [← hv2]; rfl
            clear hcut
            go_wp2_with fail
            refine wp_region_noPanic ?_
            refine wp_region_till (T := Same2 (P + 1) P wr) 6 (by kernel_rfl) ?_ (fun hTill => ?_)
            · exact ⟨rfl, rfl⟩
            refine takeT 0 (v := _) rfl (by kernel_rfl) (by kernel_rfl) (by kernel_rfl) (by kernel_rfl) (by kernel_rfl) (by kernel_rfl) (fun _ _ _ h => h) (yieldsIf_load_mid (by rfl) _ _ rfl _ _ rfl (ca.map (Value.int .u64)) _ (fun w hSw => ra w hSw) Try.underlying167 rfl ha5) (by assumption) (fun hTill => ?_)
            (try simp only [Act.put, List.setIfInBounds_toArray, List.set_cons_zero, List.set_cons_succ])
            refine takeT 1 (v := _) rfl (by kernel_rfl) (by kernel_rfl) (by kernel_rfl) (by kernel_rfl) (by kernel_rfl) (by kernel_rfl) (fun _ _ _ h => h) (yieldsIf_load_mid (by rfl) _ _ rfl _ _ rfl (cn.map (Value.int .u64)) _ (fun w hSw => rb w hSw) Try.underlying167 rfl hb5) (by assumption) (fun hTill => ?_)
            (try simp only [Act.put, List.setIfInBounds_toArray, List.set_cons_zero, List.set_cons_succ])
            refine takeM 3 (v := ?_) rfl (by kernel_rfl) (by kernel_rfl) (by kernel_rfl) (by kernel_rfl) (fun _ _ _ h => h) (Or.inl ⟨by rfl, ?_⟩) (by assumption) (fun hTill => ?_)
            rotate_left
            · (intro w hSw; go_simp; try with_reducible rfl)
            (try simp only [Act.put, List.setIfInBounds_toArray, List.set_cons_zero, List.set_cons_succ])
            refine takeM 4 (v := ?_) rfl (by kernel_rfl) (by kernel_rfl) (by kernel_rfl) (by kernel_rfl) (fun _ _ _ h => h) (Or.inl ⟨by rfl, ?_⟩) (by assumption) (fun hTill => ?_)
            rotate_left
            · (intro w hSw; go_simp; try with_reducible rfl)
            (try simp only [Act.put, List.setIfInBounds_toArray, List.set_cons_zero, List.set_cons_succ])
            refine takeM 5 (v := ?_) rfl (by kernel_rfl) (by kernel_rfl) (by kernel_rfl) (by kernel_rfl) (fun _ _ _ h => h) (Or.inl ⟨by rfl, ?_⟩) (by assumption) (fun hTill => ?_)
            rotate_left
            · (intro w hSw; go_simp; try with_reducible rfl)
            (try simp only [Act.put, List.setIfInBounds_toArray, List.set_cons_zero, List.set_cons_succ])
            refine stepM 2 rfl (by kernel_rfl) (fun K hK => ?_)
            (go_simp; go_at_call 101; refine (times_any ca cn hca HCN.out _).mono ?_; rintro e w3 ⟨⟨ct, hct, rfl⟩, hb3⟩)
            refine hK.out _ _ ?_ (fun hTill => ?_)
            · exact fun _ => ⟨hb3.block _ (block_lt hga), hb3.block _ (block_lt hgp)⟩
            clear hK K
            (try simp only [Act.put, List.setIfInBounds_toArray, List.set_cons_zero, List.set_cons_succ])
            refine stepM 6 rfl (by kernel_rfl) (fun K hK => ?_)
            (rw [if_pos (by rfl)]; refine wp_store_row 167 _ _ (by rfl) (P + 1) (fv ct) (by rfl) (by rfl) 167 _ (blk_on (show wr.drew.heap[P + 1]? = _ from hga) hb3) (by rw [fv_size, hct]; exact hi5) (by rw [fv_size, fv_size, hct, hca]) (fv_one ct) ?_)
            refine hK.out _ _ ?_ (fun hTill => ?_)
            · exact till_over (by kernel_rfl)
            clear hK K
            (try simp only [Act.put, List.setIfInBounds_toArray, List.set_cons_zero, List.set_cons_succ])
            refine takeM 7 (v := ?_) rfl (by kernel_rfl) (by kernel_rfl) (by kernel_rfl) (by kernel_rfl) (fun _ _ _ h => h) (Or.inl ⟨by rfl, ?_⟩) (by assumption) (fun hTill => ?_)
            rotate_left
            · (intro w hSw; go_simp; try with_reducible rfl)
            (try simp only [Act.put, List.setIfInBounds_toArray, List.set_cons_zero, List.set_cons_succ])
            refine doneM (by kernel_rfl) ?_ _
            refine NoPanic.normal ?_
            have hb3w : Below wr.heap.size wr w3 := (below_self_drew wr).trans hb3
            have hPs : P + 1 ≤ wr.heap.size := Nat.le_of_lt (block_lt hga)
            have F3 : Five (P + 1) w5 (w3.setRow (P + 1) (fv ct)) := ⟨⟨ct, hct, setRow_heap _ _ _ _ _ _ (blk_on hga hb3w)⟩, ((HOk.out.upto.trans hupa).trans (upto_below hb3w hPs)).setRow _⟩
            have H3 := Lib.hid F3
            have HV2 := Lib.hid hbt2
            have HLV := Lib.hid hlv2
            clear F3 hb3 hb3w hga hgp hupa hcut2 hbt2 hv2 ra rb hlv2
            go_wp2
            go_roundw
            case rel => exact ⟨l2.drop m, by rw [List.length_drop]; omega, HV2.out, H3.out⟩
            case measure =>
              show lenV v2 < l2.length
              rw [HLV.out]
              omega
    · obtain rfl : l2 = [] := List.eq_nil_of_length_eq_zero (by omega)
      clear hwh hnone hcap hlm hpos hl2
      obtain ⟨⟨ca, hca, hga⟩, hupa⟩ := HO
      have ha5 : (Try.prog.info? 167).map (·.size) = some (ca.map (Value.int .u64)).length := by rw [List.length_map, hca]; exact hi5
      have ra := range_of_block (cs := ca.map (Value.int .u64)) hga
      have HCA := Lib.hid hca
      have HGA := Lib.hid hga
      have HUP := Lib.hid hupa
      clear hga hupa hca
      go_wp2_with (refine wpList_load_at (by rfl) 167 (.tmp 7) rfl (P + 1) 0 (by rfl) (ca.map (Value.int .u64)) _ ra Try.underlying167 rfl ha5 ?_)
      clear ra ha5
      refine (least_any ca HCA.out wr).mono ?_
      rintro e w6 ⟨⟨cb, hcb, rfl⟩, hb6⟩
      have g6 := blk_on HGA.out hb6
      have HUP6 := Lib.hid (HUP.out.trans (upto_below hb6 (Nat.le_of_lt (block_lt HGA.out))))
      have HS5 := Lib.hid (show (fv cb).size = 5 from by rw [fv_size]; exact hcb)
      have HO5 := Lib.hid (show (fv ca).size = 5 from by rw [fv_size]; exact HCA.out)
      have hone := fv_one cb
      clear hb6 HUP HGA
      go_wp2_with (refine wpList_lay (by rfl) 167 (.tmp 7) (.tmp 54) rfl (P + 1) (fv cb) (by rfl) (by rfl) 167 _ g6 5 hi5 HS5.out HO5.out hone ?_; intro w7 hL7)
      have U7 : Upto (P + 1) w5 w7 := HUP6.out.trans ⟨hL7.bel, fun q hq _ => hL7.rest q hq⟩
      have F7 : Five (P + 1) w5 w7 := ⟨⟨cb, hcb, hL7.blk⟩, U7⟩
      obtain ⟨x0, hx0⟩ := F7.cell 0 (by omega)
      obtain ⟨x1, hx1⟩ := F7.cell 1 (by omega)
      obtain ⟨x2, hx2⟩ := F7.cell 2 (by omega)
      obtain ⟨x3, hx3⟩ := F7.cell 3 (by omega)
      obtain ⟨x4, hx4⟩ := F7.cell 4 (by omega)
      have HU7 := Lib.hid U7
      clear F7 U7 hL7 g6 hone HUP6 HS5 HO5 hcb
      go_quiet (fail)
      clear hx0 hx1 hx2 hx3 hx4
      refine then_world (fun w7b e7 => ?_)
      have hU7b : Upto (P + 1) w5 w7b := by
        rw [e7]
        exact ⟨HU7.out.bel.trans ⟨rfl, rfl, rfl, Nat.le_refl _, fun _ _ => rfl⟩, HU7.out.rest⟩
      replace HU7 := Lib.hid hU7b
      clear hU7b e7
      have hbt16 : Bt w7b (.slice (some ⟨N, 16, none⟩) 16 16) (ks.drop 16) := by
        have hh := (bt_block (HU7.out.blk (by omega) H15.out) (by rw [HK.out]; omega)).part 16 16 16 (by rw [HK.out]; omega) (by omega) (by unfold maxLen; omega)
        rw [List.take_of_length_le (by rw [List.length_drop, HK.out]; omega), Nat.zero_add] at hh
        exact hh
      have hbt24 : Bt w7b (.slice (some ⟨N, 24, none⟩) 8 8) (ks.drop 24) := by
        have hh := (bt_block (HU7.out.blk (by omega) H15.out) (by rw [HK.out]; omega)).part 24 8 8 (by rw [HK.out]; omega) (by omega) (by unfold maxLen; omega)
        rw [List.take_of_length_le (by rw [List.length_drop, HK.out]; omega), Nat.zero_add] at hh
        exact hh
      have HBT24 := Lib.hid hbt24
      have hy1 := bits_u64_in BinOp.or (bits BinOp.or IntKind.u64 x0 (IntKind.u64.wrap (x1 * 67108864))) (IntKind.u64.wrap (x2 * 4503599627370496))
      have hy2 := bits_u64_in BinOp.or (bits BinOp.or IntKind.u64 (x2 / 4096) (IntKind.u64.wrap (x3 * 16384))) (IntKind.u64.wrap (x4 * 1099511627776))
      generalize bits BinOp.or IntKind.u64 (bits BinOp.or IntKind.u64 x0 (IntKind.u64.wrap (x1 * 67108864))) (IntKind.u64.wrap (x2 * 4503599627370496)) = ylo at hy1 ⊢
      generalize bits BinOp.or IntKind.u64 (bits BinOp.or IntKind.u64 (x2 / 4096) (IntKind.u64.wrap (x3 * 16384))) (IntKind.u64.wrap (x4 * 1099511627776)) = yhi at hy2 ⊢
      have hw1 := word_any N 16 16 16 (ks.drop 16) (by rw [List.length_drop, HK.out]; omega) w7b hbt16
      have HY1 := Lib.hid hy1
      have HY2 := Lib.hid hy2
      clear hy1 hy2 hbt16 hbt24
      go_wp2_with fail
      refine hw1.mono ?_
      rintro e w8 ⟨⟨z1, hz1, rfl⟩, hb8⟩
      have hadd := fun w => run_add ylo z1 0 HY1.out.1 hz1.1 (by omega) (by omega) w
      have hc1 : 0 ≤ (ylo + z1 + 0) / 18446744073709551616 ∧ (ylo + z1 + 0) / 18446744073709551616 ≤ 1 := by have := HY1.out; omega
      have hq1 : 0 ≤ (ylo + z1 + 0) % 18446744073709551616 := by omega
      generalize (ylo + z1 + 0) / 18446744073709551616 = ca1 at hadd hc1
      generalize (ylo + z1 + 0) % 18446744073709551616 = lo1 at hadd hq1
      have HC1 := Lib.hid hc1
      have HQ1 := Lib.hid hq1
      clear hw1 hc1 hq1 hz1
      have hw2 := word_any N 24 8 8 (ks.drop 24) (by rw [List.length_drop, HK.out]; omega) w8 (HBT24.out.below hb8)
      have HU8 := Lib.hid (HU7.out.trans (upto_below hb8 (by have := HU7.out.bel.size; have := HS.out; omega)))
      clear hb8
      go_wp2_with fail
      refine hw2.mono ?_
      rintro e w9 ⟨⟨z2, hz2, rfl⟩, hb9⟩
      have hadd2 := fun w => run_add yhi z2 ca1 HY2.out.1 hz2.1 HC1.out.1 HC1.out.2 w
      have hq2 : 0 ≤ (yhi + z2 + ca1) % 18446744073709551616 := by omega
      generalize (yhi + z2 + ca1) / 18446744073709551616 = ca2 at hadd2
      generalize (yhi + z2 + ca1) % 18446744073709551616 = hi1 at hadd2 hq2
      have HQ2 := Lib.hid hq2
      have HU9 := Lib.hid (HU8.out.trans (upto_below hb9 (by have := HU8.out.bel.size; have := HS.out; omega)))
      have F9 : BytesN 16 (N + 1) 122 w9 w9 := ⟨⟨List.replicate 16 0, by simp, HU9.out.blk (by omega) H25.out⟩, Upto.refl _ _⟩
      have HF9 := Lib.hid F9
      clear hw2 hq2 hz2 hb9 F9
      go_wp2_with fail
      clear hadd hadd2
      go_loopw [14, 91] (fun _ i wr => ∃ j : Nat, j ≤ 8 ∧ i = .int .i64 j ∧ BytesN 16 (N + 1) 122 w9 wr) (fun _ i _ => 8 - (intOf i).toNat)
      case atStart => exact ⟨0, by omega, rfl, HF9.out⟩
      case round =>
        clear HF9
        obtain ⟨j, hj, rfl, HO⟩ := hrel
        by_cases hlt : j < 8
        · have hdj : decide ((j : Int) < 8) = true := decide_eq_true (by omega)
          have e1 : IntKind.i64.wrap ((j : Int) + 1) = (j : Int) + 1 := IntWalk.i64_in _ (by omega)
          have e2 : IntKind.i64.wrap (8 + (j : Int)) = 8 + (j : Int) := IntWalk.i64_in _ (by omega)
          have e3 : IntKind.i64.wrap (8 * (j : Int)) = 8 * (j : Int) := IntWalk.i64_in _ (by omega)
          have j1 : (0 : Int) ≤ (j : Int) := by omega
          have j2 : (j : Int) < 16 := by omega
          have j3 : (0 : Int) ≤ 8 + (j : Int) := by omega
          have j4 : 8 + (j : Int) < 16 := by omega
          have j5 : (8 + (j : Int)).toNat = 8 + j := by omega
          have j6 : (0 : Int) ≤ 8 * (j : Int) := by omega
          go_wp2_with fail
          refine wp_region_noPanic ?_
          refine wp_region_held_drew (S := (BytesN 16 (N + 1) 122 w9)) (by kernel_rfl) ?_ (fun hHeld => ?_)
          · exact HO.drew
          refine takeL 0 (v := ?_) rfl (by kernel_rfl) (by kernel_rfl) (by kernel_rfl) (fun _ _ _ h => h) (Or.inl ⟨by rfl, ?_⟩) (by assumption) ?_
          rotate_left
          · (intro w hSw; go_simp; try with_reducible rfl)
          (try simp only [Act.put, List.setIfInBounds_toArray, List.set_cons_zero, List.set_cons_succ])
          refine takeL 1 (v := ?_) rfl (by kernel_rfl) (by kernel_rfl) (by kernel_rfl) (fun _ _ _ h => h) (Or.inl ⟨by rfl, ?_⟩) (by assumption) ?_
          rotate_left
          · (intro w hSw; go_simp; try with_reducible rfl)
          (try simp only [Act.put, List.setIfInBounds_toArray, List.set_cons_zero, List.set_cons_succ])
          refine takeL 2 (v := ?_) rfl (by kernel_rfl) (by kernel_rfl) (by kernel_rfl) (fun _ _ _ h => h) (Or.inl ⟨by rfl, ?_⟩) (by assumption) ?_
          rotate_left
          · (intro w hSw; go_simp; try with_reducible rfl)
          (try simp only [Act.put, List.setIfInBounds_toArray, List.set_cons_zero, List.set_cons_succ])
          refine takeL 3 (v := ?_) rfl (by kernel_rfl) (by kernel_rfl) (by kernel_rfl) (fun _ _ _ h => h) (Or.inl ⟨by rfl, ?_⟩) (by assumption) ?_
          rotate_left
          · (intro w hSw; go_simp; try with_reducible rfl)
          (try simp only [Act.put, List.setIfInBounds_toArray, List.set_cons_zero, List.set_cons_succ])
          refine takeL 4 (v := ?_) rfl (by kernel_rfl) (by kernel_rfl) (by kernel_rfl) (fun _ _ _ h => h) (Or.inl ⟨by rfl, ?_⟩) (by assumption) ?_
          rotate_left
          · (intro w hSw; go_simp; try with_reducible rfl)
          (try simp only [Act.put, List.setIfInBounds_toArray, List.set_cons_zero, List.set_cons_succ])
          refine takeL 5 (v := ?_) rfl (by kernel_rfl) (by kernel_rfl) (by kernel_rfl) (fun _ _ _ h => h) (Or.inl ⟨by rfl, ?_⟩) (by assumption) ?_
          rotate_left
          · (intro w hSw; go_simp; try with_reducible rfl)
          (try simp only [Act.put, List.setIfInBounds_toArray, List.set_cons_zero, List.set_cons_succ])
          refine takeL 6 (v := ?_) rfl (by kernel_rfl) (by kernel_rfl) (by kernel_rfl) (fun _ _ _ h => h) (Or.inl ⟨by rfl, ?_⟩) (by assumption) ?_
          rotate_left
          · (intro w hSw; go_simp; try with_reducible rfl)
          (try simp only [Act.put, List.setIfInBounds_toArray, List.set_cons_zero, List.set_cons_succ])
          refine takeL 7 (v := ?_) rfl (by kernel_rfl) (by kernel_rfl) (by kernel_rfl) (fun _ _ _ h => h) (Or.inl ⟨by rfl, ?_⟩) (by assumption) ?_
          rotate_left
          · (intro w hSw; go_simp; try with_reducible rfl)
          (try simp only [Act.put, List.setIfInBounds_toArray, List.set_cons_zero, List.set_cons_succ])
          refine takeL 8 (v := ?_) rfl (by kernel_rfl) (by kernel_rfl) (by kernel_rfl) (fun _ _ _ h => h) (Or.inl ⟨by rfl, ?_⟩) (by assumption) ?_
          rotate_left
          · (intro w hSw; go_simp; try with_reducible rfl)
          (try simp only [Act.put, List.setIfInBounds_toArray, List.set_cons_zero, List.set_cons_succ])
          refine takeL 9 (v := ?_) rfl (by kernel_rfl) (by kernel_rfl) (by kernel_rfl) (fun _ _ _ h => h) (Or.inl ⟨by rfl, ?_⟩) (by assumption) ?_
          rotate_left
          · (intro w hSw; go_simp; try with_reducible rfl)
          (try simp only [Act.put, List.setIfInBounds_toArray, List.set_cons_zero, List.set_cons_succ])
          refine takeL 10 (v := ?_) rfl (by kernel_rfl) (by kernel_rfl) (by kernel_rfl) (fun _ _ _ h => h) (Or.inl ⟨by rfl, ?_⟩) (by assumption) ?_
          rotate_left
          · (intro w hSw; go_simp; try with_reducible rfl)
          (try simp only [Act.put, List.setIfInBounds_toArray, List.set_cons_zero, List.set_cons_succ])
          refine takeL 11 (v := ?_) rfl (by kernel_rfl) (by kernel_rfl) (by kernel_rfl) (fun _ _ _ h => h) (Or.inl ⟨by rfl, ?_⟩) (by assumption) ?_
          rotate_left
          · (intro w hSw; go_simp; try with_reducible rfl)
          (try simp only [Act.put, List.setIfInBounds_toArray, List.set_cons_zero, List.set_cons_succ])
          refine takeL 12 (v := ?_) rfl (by kernel_rfl) (by kernel_rfl) (by kernel_rfl) (fun _ _ _ h => h) (Or.inl ⟨by rfl, ?_⟩) (by assumption) ?_
          rotate_left
          · (intro w hSw; go_simp; try with_reducible rfl)
          (try simp only [Act.put, List.setIfInBounds_toArray, List.set_cons_zero, List.set_cons_succ])
          refine takeL 13 (v := ?_) rfl (by kernel_rfl) (by kernel_rfl) (by kernel_rfl) (fun _ _ _ h => h) (Or.inl ⟨by rfl, ?_⟩) (by assumption) ?_
          rotate_left
          · (intro w hSw; go_simp; try with_reducible rfl)
          (try simp only [Act.put, List.setIfInBounds_toArray, List.set_cons_zero, List.set_cons_succ])
          refine stepL 14 rfl (by kernel_rfl) (fun K hK => ?_)
          (obtain ⟨bq, hbq⟩ := hHeld.cell (j) (by omega); have hzq := hHeld.thaw (j); go_simp)
          refine hK.out _ _ ?_ (fun hHeld => ?_)
          · exact hHeld.setw _ _
          clear hK K
          (try simp only [Act.put, List.setIfInBounds_toArray, List.set_cons_zero, List.set_cons_succ])
          refine takeL 15 (v := ?_) rfl (by kernel_rfl) (by kernel_rfl) (by kernel_rfl) (fun _ _ _ h => h) (Or.inl ⟨by rfl, ?_⟩) (by assumption) ?_
          rotate_left
          · (intro w hSw; go_simp; try with_reducible rfl)
          (try simp only [Act.put, List.setIfInBounds_toArray, List.set_cons_zero, List.set_cons_succ])
          refine stepL 16 rfl (by kernel_rfl) (fun K hK => ?_)
          (obtain ⟨bq, hbq⟩ := hHeld.cell (8 + j) (by omega); have hzq := hHeld.thaw (8 + j); go_simp)
          refine hK.out _ _ ?_ (fun hHeld => ?_)
          · exact hHeld.setw _ _
          clear hK K
          (try simp only [Act.put, List.setIfInBounds_toArray, List.set_cons_zero, List.set_cons_succ])
          refine wpAnyH_done (by kernel_rfl) ?_ _
          refine NoPanic.normal ?_
          have HOO := Lib.hid hHeld
          clear HO hHeld
          go_wp2
          go_roundw
          case rel => exact ⟨j + 1, by omega, congrArg (Value.int .i64) (by omega), HOO.out⟩
          case measure =>
            show 8 - ((j : Int) + 1).toNat < 8 - (j : Int).toNat
            omega
        · obtain ⟨lt, hlt2, hgt⟩ := HO.blk
          have hdj : decide ((j : Int) < 8) = false := decide_eq_false (by omega)
          have rt := range_of_block (cs := lt.map bv) hgt
          have hi16 : (Try.prog.info? 122).map (·.size) = some 16 := by kernel_rfl
          have hil : (Try.prog.info? 122).map (·.size) = some (lt.map bv).length := by rw [List.length_map, hlt2]; exact hi16
          have HS6 := Lib.hid (show (lt.map bv).toArray.size = 16 from by simpa using hlt2)
          have HLT := Lib.hid hlt2
          have hone := bytes_one lt
          have hbf : Below w.heap.size w wr := by
            have h5 := HB5.out
            have h9 := HU9.out.bel
            have h0 := HO.upto.bel
            rw [HN.out]
            have := HS.out
            exact h5.trans ((h9.mono (by omega)).trans (h0.mono (by omega)))
          have HBF := Lib.hid hbf
          clear HO hbf hlt2
          go_wp2_with (first
            | refine wpList_load_at (by rfl) 122 (.tmp 4) rfl (N + 1) 0 (by rfl) (lt.map bv) _ rt Try.underlying122 rfl hil ?_
            | (refine wpList_lay (by rfl) 122 (.tmp 4) (.tmp 110) rfl (N + 1) (lt.map bv).toArray (by rfl) (by rfl) 122 _ hgt 16 hi16 HS6.out HS6.out hone ?_; intro w99 hL9))
          try simp only [Exit.inBlock, Exit.then]
          refine bodyPost_ret (results_cell_row rfl _ _ (N + 1) _ _ _ _ rfl hL9.blk Try.underlying122 rfl (by rw [HS6.out]; exact hi16)) rfl ?_
          exact ⟨⟨lt, HLT.out, rfl⟩, HBF.out.trans (hL9.bel.mono (by have := HN.out; omega))⟩
end Go.Proofs.Ytdiokmaomglefaa
