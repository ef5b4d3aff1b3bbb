/- A frame's nonce: twelve bytes. -/
import Derived.Test.YtdiokmaomglefaaGWrite
import Derived.Test.YtdiokmaomglefaaGBlock
import Derived.Test.YtdiokmaomglefaaMA
import Derived.Laws.CopyOwn
namespace Go.Proofs.Ytdiokmaomglefaa
open Go Go.RowKit

theorem rw_block (sz : Nat) {w : World} {g : Nat} {cs : List Value} {t : TypeId} {fr : Nat × Nat} (h : w.heap[g]? = some (.cells cs.toArray t fr)) (n : Nat) (hl : cs.length = n * sz) (hn : n ≤ maxLen) : Rw sz w (.slice (some ⟨g, 0, none⟩) n n) n cs :=
  ⟨_, _, rfl, hl, (fun h => by cases h), Nat.le_refl _, hn, fun _ => ⟨g, 0, rfl, block_lt h, fun j v hj => by rw [Nat.zero_add, cell_of_block h j]; simpa using hj⟩⟩
theorem splice_all (cur cs : List Value) (h : cur.length = cs.length) : splice cur 0 cs = cs := by
  simp [splice, h]
set_option linter.unusedSimpArgs false in
set_option maxRecDepth 100000 in
set_option maxHeartbeats 2000000 in
theorem nonce_any (k a n : Int) (s p : Nat) (hs : s < 9223372036854775808) (hp : p < 4294967296) (w : World) :
    Calls Try.prog 39 #[.agg #[.int .i64 k, .int .i64 a, .int .i64 n, .int .i64 s, .int .i64 p]] w fun e w' => (∃ l : List UInt8, l.length = 12 ∧ e = .returned (.agg (l.map bv).toArray)) ∧ Below w.heap.size w w' := by
  have k4 : IntKind.u64.wrap (s : Int) = s := by rw [IntKind.wrap_u64]; omega
  have k5 : IntKind.u64.wrap (p : Int) = p := by rw [IntKind.wrap_u64]; omega
  have hl2 : ∀ q ∈ [(4, p), (8, s)], (q.1 = 1 ∨ q.1 = 2 ∨ q.1 = 4 ∨ q.1 = 8) ∧ q.2 < 256 ^ q.1 := by
    intro q hq
    simp only [List.mem_cons, List.not_mem_nil, or_false] at hq
    rcases hq with rfl | rfl <;> simp <;> omega
  have hFL : (fieldsB [(4, p), (8, s)]).length = 12 := by simp [fieldsB, le_length]
  obtain ⟨F, hF⟩ : ∃ F, fieldsB [(4, p), (8, s)] = F := ⟨_, rfl⟩
  rw [hF] at hFL
  have HF := Lib.hid hF
  have HFL := Lib.hid hFL
  have hi1 : (Try.prog.info? 5).map (·.size) = some 1 := by kernel_rfl
  have hi12 : (Try.prog.info? 83).map (·.size) = some 12 := by kernel_rfl
  clear hF hFL
  go_enter Try.func39, Try.ntmps39
  go_wp2_with fail
  refine calls_world (fun w0 e0 => ?_)
  obtain ⟨g1, g2, g3, g4, hb, hs0⟩ := four_alloc' e0
  clear e0
  refine (fields_any [(4, p), (8, s)] (by simp) hl2 _ _ 2 2 w0 (rw_block 1 g3 2 rfl (by unfold maxLen; omega)) (rw_block 1 g4 2 rfl (by unfold maxLen; omega))).mono ?_
  rintro e w2 ⟨⟨v, rfl, hv⟩, hb2⟩
  rw [HF.out, HFL.out] at hv
  have gR := blk_on g2 hb2
  have hbb := hb.trans (hb2.mono hb.size)
  obtain ⟨av, cv, rfl, _, _, _, _, hcell⟩ := own_rw hv
  obtain ⟨bb, bo, rfl, hblt, hr⟩ := hcell (by omega)
  have hcs : ∀ j u, (F.map bv)[j]? = some u → w2.cell? ((⟨bb, bo, none⟩ : Addr).add j) = some u := fun j u hj => by
    rw [Go.WideShapes.add_plain]
    exact hr j u hj
  have HCS := Lib.hid hcs
  have HR := Lib.hid gR
  have HBB := Lib.hid hbb
  have HL := Lib.hid (show (F.map bv).length = 12 from by rw [List.length_map]; exact HFL.out)
  clear g1 g2 g3 g4 hb hs0 hb2 hcs gR hbb hv hr hcell hl2
  have hone : (F.map bv).toArray.all (·.oneCell') = true := by
    rw [Array.all_eq_true]
    intro i hi
    simp [bv]
    rfl
  have HSZ := Lib.hid (show (F.map bv).toArray.size = 12 from by rw [List.size_toArray]; exact HL.out)
  have hil : (Try.prog.info? 83).map (·.size) = some (F.map bv).length := by rw [HL.out]; exact hi12
  go_wp2_with (first
    | (refine wpList_copy_splice rfl (.tmp 17) (.tmp 18) 24 24 rfl 5 Try.underlying24 hi1 (some ⟨w.heap.size + 1, 0, none⟩) (some ⟨bb, bo, none⟩) 12 12 12 cv (by rfl) (by rfl) (w.heap.size + 1) 0 (List.replicate 12 (.int .u8 0)) 83 HR.out (F.map bv) (by rw [HL.out]; rfl) (fun _ => ⟨rfl, _, rfl, HCS.out⟩) (by rw [HL.out]; simp) (bv_one _) (w.heap.size + 1) w2 (Below.refl _ _) (Nat.le_refl _) ?_
       intro w3 h3 hb3
       have h4 := h3.out
       rw [splice_all _ _ (by rw [HL.out]; simp)] at h4
       have r3 := range_of_block h4
       rw [HL.out])
    | refine wpList_load_at (by rfl) 83 (.tmp 2) rfl (w.heap.size + 1) 0 (by rfl) (F.map bv) _ r3 Try.underlying83 rfl hil ?_
    | (refine wpList_lay (by rfl) 83 (.tmp 2) (.tmp 20) rfl (w.heap.size + 1) (F.map bv).toArray (by rfl) (by rfl) 83 _ h4 12 hi12 HSZ.out HSZ.out hone ?_; intro w9 hL9))
  try simp only [Exit.inBlock, Exit.then]
  refine bodyPost_ret (results_cell_row rfl _ _ (w.heap.size + 1) _ _ _ _ rfl hL9.blk Try.underlying83 rfl (by rw [HSZ.out]; exact hi12)) rfl ?_
  exact ⟨⟨F, HFL.out, rfl⟩, HBB.out.trans ((hb3.mono (by omega)).trans (hL9.bel.mono (by omega)))⟩
end Go.Proofs.Ytdiokmaomglefaa
