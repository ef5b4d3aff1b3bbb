import Derived.Test.YtdiokmaomglefaaMA
import Derived.Laws.AppendOwn
import Derived.Lib.AppendZeros
import Derived.Test.YtdiokmaomglefaaMZ
/- append(v, make([]byte, m)...) onto a row of the call's own. -/
namespace Go.Proofs.Ytdiokmaomglefaa
open Go Go.RowKit

theorem zero_cells (z : Value) (hz : z.cells = #[z]) (m : Nat) : Builtin.zeroCells z.cells m = (List.replicate m z).toArray := by
  rw [hz]
  apply Array.ext
  · simp [Builtin.zeroCells]
  · intro k h1 h2
    simp [Builtin.zeroCells, Nat.mod_one]
set_option linter.unusedSimpArgs false in
theorem run_append_zeros {P : Program} (w : World) (base : Nat) (t tn ty e : TypeId) (i : TypeInfo) (z : Value) (ht : P.underlying t = some (.slice e)) (htn : P.underlying tn = some (.int .i64)) (hi : P.info? e = some i) (hz : i.zero = some z)
    (hsize : i.size = 1) (hby : i.bytes = 1) (hzs : z.cells = #[z]) (hz1 : z.oneCell' = true)
    (v : Value) (n : Nat) (xs : List Value) (hown : w.ownsRow base e 1 v n xs) (m : Nat) (hmax : n + m ≤ 140737488355328) (hbase : base ≤ w.heap.size) :
    ∃ v' w', (Builtin.append_ #[t, tn] ty #[v, .int .i64 m]).run P w = .ok v' w' ∧ w'.ownsRow base e 1 v' (n + m) (xs ++ List.replicate m z) ∧ w.grownBy w' v.ownBlock := by
  have hw : IntKind.i64.wrap (m : Int) = m := by rw [IntKind.wrap_i64]; omega
  have hneg : ¬ ((m : Int) < 0) := by omega
  have hb1 : ¬ (281474976710656 < (m : Int)) := by omega
  have hlx : xs.length = n := by simpa using hown.1
  have hlen : (xs ++ List.replicate m z).length = (n + m) * 1 := by simp [hlx]
  have hml : n + m ≤ maxLen := by unfold maxLen; omega
  have hzc := zero_cells z hzs
  have hw0 : IntKind.i64.wrap 0 = 0 := by decide
  have grown : ∀ (old : Nat), old < n + m → ∀ (row : Option Nat) (c : Array Value), c.toList = xs ++ List.replicate m z ++ (Builtin.zeroCells z.cells (grownCap w (n + m) old e - (n + m))).toList →
      (w.drew.alloc (.cells c e)).ownsRow base e 1 (.slice (some ⟨w.heap.size, 0, none⟩) (n + m) (grownCap w (n + m) old e)) (n + m) (xs ++ List.replicate m z) ∧ w.grownBy (w.drew.alloc (.cells c e)) row := by
    intro old ho row c hc
    have hge := grownCap_ge w (n + m) old e
    have hcm : grownCap w (n + m) old e ≤ maxLen := grownCap_le_maxLen w (n + m) old e hml
    refine ⟨⟨hlen, .inr ⟨w.heap.size, _, _, rfl, hbase, heap_alloc_new w.drew _, hge, hcm, ?_, ?_⟩⟩, ⟨rfl, rfl, rfl, by simp, fun k hk _ => heap_alloc_old w.drew _ hk⟩⟩
    · rw [← Array.length_toList, hc]
      rw [hzc]
      simp [hlx]
      omega
    · rw [hc, ← hlen]
      exact List.take_left
  rcases hown.2 with ⟨rfl, rfl⟩ | ⟨g, cap, cur, rfl, hbg, hg, hnc, hcm, hcs, htake⟩
  · have hx : xs = [] := List.eq_nil_of_length_eq_zero hlx
    subst hx
    by_cases hm : m = 0
    · subst hm
      refine ⟨.slice none 0 0, w, ?_, by simpa using World.ownsRow_nil w base e 1, World.grownBy.refl _ _⟩
      simp [Builtin.append_, run_underlying ht, run_underlying htn, sizeOf, typeInfo, hi, hsize, hby, asInt, asIntOf, hw0]
    · have hr := Lib.run_append_nil_zeros (P := P) w t tn ty e i z .i64 .i64 ht htn hi hz m (by omega) (by omega) (by omega) (by rw [hby]; omega)
      have hgr := grown 0 (by omega) (Value.ownBlock (.slice none 0 0)) (Builtin.zeroCells z.cells m ++ Builtin.zeroCells z.cells (grownCap w m 0 e - m)) (by simp [hzc])
      simp only [Nat.zero_add] at hgr ⊢
      exact ⟨_, _, hr, hgr.1, hgr.2⟩
  · simp only [Nat.mul_one] at hcs htake
    by_cases hm : m = 0
    · subst hm
      refine ⟨.slice (some ⟨g, 0, none⟩) n cap, w, ?_, by simpa using hown, World.grownBy.refl _ _⟩
      simp [Builtin.append_, run_underlying ht, run_underlying htn, sizeOf, typeInfo, hi, hsize, hby, asInt, asIntOf, hw0, hnc]
      rfl
    by_cases hroom : n + m ≤ cap
    · have hst := run_storeCells_at P g n e (List.replicate m z) 0 cur w hg (by simp; omega) (fun u hu => by rw [List.eq_of_mem_replicate hu]; exact hz1)
      simp only [Nat.add_zero] at hst
      have hr : (Builtin.append_ #[t, tn] ty #[.slice (some ⟨g, 0, none⟩) n cap, .int .i64 m]).run P w = .ok (.slice (some ⟨g, 0, none⟩) (n + m) cap) (w.setRow g (cur.toList.take n ++ List.replicate m z ++ cur.toList.drop (n + m)).toArray) := by
        simp [Builtin.append_, run_underlying ht, run_underlying htn, sizeOf, typeInfo, zeroValue, hi, hz, hsize, hby, asInt, asIntOf, hw, hneg, hb1, hroom, hm, hzc, Addr.add_lit, hst]
      refine ⟨_, _, hr, ⟨hlen, .inr ⟨g, cap, _, rfl, hbg, setRow_heap w g cur _ e _ hg, hroom, hcm, ?_, ?_⟩⟩, ⟨rfl, rfl, rfl, by simp, fun k _ hk => setRow_other w g k _ (fun e => hk (by simp [Value.ownBlock, e]))⟩⟩
      · simp
        omega
      · show List.take ((n + m) * 1) (cur.toList.take n ++ List.replicate m z ++ _) = _
        rw [htake, ← hlen]
        exact List.take_left
    · have holds : ∀ j u, xs[j]? = some u → w.drew.cell? ((⟨g, 0, none⟩ : Addr).add j) = some u := hown.cells (g := g) rfl
      have hfo := run_firstCells_some (P := P) w.drew 1 n ⟨g, 0, none⟩ n cap xs (by omega) holds
      have h63' : ¬ (9223372036854775807 < ((n : Int) + (m : Int))) := by omega
      have h48' : ¬ (281474976710656 < Builtin.nextslicecap (n + m) cap) := by
        have := growslice_fits (bytes := 1) (show cap < n + m by omega) (by omega)
        omega
      have hgr := grown cap (by omega) (Value.ownBlock (.slice (some ⟨g, 0, none⟩) n cap)) (xs.toArray ++ Builtin.zeroCells z.cells m ++ Builtin.zeroCells z.cells (grownCap w (n + m) cap e - (n + m))) (by simp [hzc])
      refine ⟨_, _, ?_, hgr.1, hgr.2⟩
      simp [Builtin.append_, run_underlying ht, run_underlying htn, sizeOf, typeInfo, zeroValue, hi, hz, hsize, hby, asInt, asIntOf, hw, hneg, hb1, hroom, hm, h63', h48', Question.forced, hfo, newRow, grownCap]
end Go.Proofs.Ytdiokmaomglefaa
/- aead.Tag's closure: a part, and zeros behind it, onto the text. -/
namespace Go.Proofs.Ytdiokmaomglefaa
open Go Go.RowKit

/-- A variable that holds a text of the call's own. -/
def TextAt (C : Nat) (l : List UInt8) (w : World) : Prop := ∃ v, w.heap[C]? = some (.cells #[v] 24 (0, 0)) ∧ w.ownsRow (C + 1) 5 1 v l.length (l.map bv)
theorem text_set {C : Nat} {v v' : Value} {n : Nat} {xs xs' : List Value} {n' : Nat} {w w1 : World} (hC : w.heap[C]? = some (.cells #[v] 24 (0, 0))) (hown : w.ownsRow (C + 1) 5 1 v n xs) (hg : w.grownBy w1 v.ownBlock)
    (hown1 : w1.ownsRow (C + 1) 5 1 v' n' xs') : w1.heap[C]? = some (.cells #[v] 24 (0, 0)) ∧ (w1.setCell ⟨C, 0, none⟩ v').heap[C]? = some (.cells #[v'] 24 (0, 0)) ∧ (w1.setCell ⟨C, 0, none⟩ v').ownsRow (C + 1) 5 1 v' n' xs' ∧ Below C w (w1.setCell ⟨C, 0, none⟩ v') := by
  have hlt := block_lt hC
  have h1 : w1.heap[C]? = some (.cells #[v] 24 (0, 0)) := (hg.block C hlt (fun e => by have := (hown.lt C e.symm).1; omega)).trans hC
  have L := set_cell (j := 0) h1 v'
  refine ⟨h1, L.blk, own_on hown1 (fun k hk => L.rest k (by omega)), ?_⟩
  exact ((Below.refl C w).grown hg (by omega) (fun k e => by have := (hown.lt k e).1; omega)).trans L.bel
theorem bits_and15 (x : Int) : ∃ m : Nat, m ≤ 15 ∧ bits BinOp.and IntKind.i64 x 15 = m := by
  have hle : (BitVec.ofInt 64 x &&& BitVec.ofInt 64 15).toNat ≤ 15 := by
    rw [BitVec.toNat_and]
    exact Nat.and_le_right
  refine ⟨_, hle, ?_⟩
  show IntKind.i64.wrap ((BitVec.ofInt 64 x &&& BitVec.ofInt 64 15).toNat : Int) = _
  exact IntWalk.i64_in _ (by omega)
set_option linter.unusedSimpArgs false in
set_option maxRecDepth 100000 in
set_option maxHeartbeats 1000000 in
theorem tag1_any (C : Nat) (p : Value) (l ps : List UInt8) (w : World) (ht : TextAt C l w) (hp : Bt w p ps) (hm : l.length + ps.length + 15 ≤ 1000000) :
    Calls Try.prog 85 #[p, .pointer (some ⟨C, 0, none⟩)] w fun e w' => e = .returned (.tuple #[]) ∧ (∃ l', l'.length ≤ l.length + ps.length + 15 ∧ TextAt C l' w') ∧ Below C w w' := by
  obtain ⟨v, hC, hown⟩ := ht
  obtain ⟨i0, hi, hz0, hz1, hz2⟩ := info_parts info_u8
  have hcv : w.cell? ⟨C, 0, none⟩ = some v := cell_of_block hC 0
  have htv := thawed hC 0
  have hlt := block_lt hC
  obtain ⟨ap, capp, rfl, _⟩ := id hp
  obtain ⟨av, capv, rfl, _⟩ := own_rw hown
  obtain ⟨m, hm15, hbm⟩ := bits_and15 (-(ps.length : Int))
  go_enter Try.func85, Try.ntmps85
  go_wp2_with (first
    | (at_builtin
       refine wpList_append_rw _ rfl (.tmp 3) (.tmp 4) 24 rfl (C + 1) 5 i0 (.int .u8 0) 1 1 Try.underlying24 hi hz0 hz1 hz2 rfl (by decide) (.slice av l.length capv) l.length (l.map bv) rfl hown _ ps.length _ rfl hp.rw (bv_one _) (by unfold maxLen; omega) (by omega) (by omega) ?_
       intro v1 w1 hown1 hg1
       obtain ⟨av1, capv1, rfl, _⟩ := own_rw hown1
       rw [← List.map_append] at hown1
       have ht1 := text_set hC hown hg1 hown1
       have hC1 := ht1.1
       have hC2 := ht1.2.1
       have hown2 := ht1.2.2.1
       have HB2 := Lib.hid ht1.2.2.2
       have hcv1 : w1.cell? ⟨C, 0, none⟩ = some (.slice av l.length capv) := cell_of_block hC1 0
       have htv1 := thawed hC1 0
       clear hown hC ht1 hg1 hown1 hC1)
    | (at_builtin
       obtain ⟨v3, w3, hr3, hown3, hg3⟩ := run_append_zeros (P := Try.prog) _ (C + 1) 24 3 24 5 i0 (.int .u8 0) Try.underlying24 Try.underlying3 hi hz0 hz1 hz2 rfl rfl _ _ _ hown2 m (by omega) (by have := HB2.out.size; simp at this ⊢; omega)
       obtain ⟨av3, capv3, rfl, _⟩ := own_rw hown3
       refine Lib.wpList_append_run _ rfl (.tmp 6) (.tmp 10) 24 3 rfl (.slice av1 (l.length + ps.length) capv1) (.int .i64 m) rfl rfl (.slice av3 (l.length + ps.length + m) capv3) w3 hr3 ?_
       have ht3 := text_set hC2 hown2 hg3 hown3
       have hC3 := ht3.1
       have hC4 := ht3.2.1
       have hown4 := ht3.2.2.1
       have HB4 := Lib.hid (HB2.out.trans ht3.2.2.2)
       have hcv3 : w3.cell? ⟨C, 0, none⟩ = some (.slice av1 (l.length + ps.length) capv1) := cell_of_block hC3 0
       have htv3 := thawed hC3 0
       clear ht3 hown2 hC2 hg3 hown3 hC3 hr3))
  go_end0
  refine ⟨rfl, ⟨l ++ ps ++ List.replicate m 0, by simp; omega, _, hC4, ?_⟩, HB4.out⟩
  have e1 : (l ++ ps).map bv ++ List.replicate m (Value.int .u8 0) = (l ++ ps ++ List.replicate m 0).map bv := by simp [bv]
  have e2 : l.length + ps.length + m = (l ++ ps ++ List.replicate m 0).length := by simp; omega
  rw [← e1, ← e2]
  exact hown4
end Go.Proofs.Ytdiokmaomglefaa
