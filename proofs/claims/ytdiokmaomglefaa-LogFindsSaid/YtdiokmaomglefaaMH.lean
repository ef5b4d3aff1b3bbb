import Derived.Test.YtdiokmaomglefaaMZ
import Derived.Test.YtdiokmaomglefaaMA
import Derived.Laws.BitsAllLaws
import Derived.Test.YtdiokmaomglefaaMR
/- The number that bytes are: fix.Get. -/
namespace Go.Proofs.Ytdiokmaomglefaa
open Go Go.RowKit

theorem leg_snoc (l : List UInt8) (j : Nat) (h : j < l.length) : leg (l.take (j + 1)) = leg (l.take j) + l[j].toNat * 256 ^ j := by
  induction l generalizing j with
  | nil => simp at h
  | cons b l ih =>
    cases j with
    | zero => simp [leg]
    | succ j =>
      simp only [List.take_succ_cons, leg, List.getElem_cons_succ]
      rw [ih j (by simpa using h), Nat.pow_succ, Nat.mul_add]
      generalize hx : (l[j]'(by simpa using h)).toNat = x
      have : 256 * (x * 256 ^ j) = x * (256 ^ j * 256) := by rw [Nat.mul_comm, Nat.mul_assoc]
      omega
theorem leg_take_lt (l : List UInt8) (j : Nat) (h : j ≤ l.length) : leg (l.take j) < 256 ^ j := by
  have := leg_lt (l.take j)
  rwa [List.length_take, Nat.min_eq_left h] at this
theorem pow_le8 (j : Nat) (h : j ≤ 7) : 256 ^ j ≤ 72057594037927936 := by
  have : (256 : Nat) ^ j ≤ 256 ^ 7 := Nat.pow_le_pow_right (by decide) h
  simpa using this
theorem or_more (n x j : Nat) (hn : n < 256 ^ j) (hx : x < 256) (hj : j ≤ 7) : bits .or .u64 (n : Int) (IntKind.u64.wrap ((x : Int) * 2 ^ (8 * j))) = ((n + x * 256 ^ j : Nat) : Int) := by
  have hp := pow_le8 j hj
  have e : (2 : Int) ^ (8 * j) = ((256 ^ j : Nat) : Int) := by rw [Int.pow_mul]; simp
  have e2 : (x : Int) * 2 ^ (8 * j) = ((x * 256 ^ j : Nat) : Int) := by rw [e]; simp
  have hm : x * 256 ^ j ≤ 255 * 256 ^ j := Nat.mul_le_mul_right _ (by omega)
  rw [e2, show IntKind.u64.wrap ((x * 256 ^ j : Nat) : Int) = ((x * 256 ^ j : Nat) : Int) from by rw [IntKind.wrap_u64]; omega, u64_or_nat _ _ (by omega) (by omega)]
  congr 1
  have e3 : (256 : Nat) ^ j = 2 ^ (8 * j) := by rw [Nat.pow_mul]
  rw [Nat.or_comm, e3, ← Nat.shiftLeft_eq, ← Nat.shiftLeft_add_eq_or_of_lt (by rw [← e3]; exact hn)]
  omega
set_option maxHeartbeats 1000000 in
theorem get_any (a : Option Addr) (n cap : Nat) (l : List UInt8) (hs : n = 1 ∨ n = 2 ∨ n = 4 ∨ n = 8) (w : World) (h : Bt w (.slice a n cap) l) :
    Calls Try.prog 64 #[.slice a n cap] w fun e w' => e = .returned (.tuple #[.int .u64 (leg l), .int .i64 0]) ∧ Below w.heap.size w w' := by
  obtain ⟨rfl, p1, p2, p3⟩ := h.len
  have h8 : l.length ≤ 8 := by omega
  have h0 : 1 ≤ l.length := by omega
  have hs2 : (l.length : Int) = 1 ∨ (l.length : Int) = 2 ∨ (l.length : Int) = 4 ∨ (l.length : Int) = 8 := by omega
  have HS := Lib.hid hs2
  clear hs hs2
  obtain ⟨b, off, rfl, hb, hc⟩ := h.where (by omega)
  clear hc
  go_enter Try.func64, Try.ntmps64
  go_wp2_with fail
  refine (may_any _ HS.out _).mono ?_
  rintro e w1 ⟨rfl, hb1⟩
  go_wp2_with fail
  have h1 := h.below hb1
  go_loopw [2, 4, 5, 12] (fun v _ _ i wr => ∃ j : Nat, j ≤ l.length ∧ i = .int .i64 j ∧ v = .int .u64 (leg (l.take j)) ∧ wr = w1) (fun _ _ _ i _ => l.length - (intOf i).toNat)
  case atStart => exact ⟨0, by omega, rfl, rfl, rfl⟩
  case round =>
    obtain ⟨j, hj, rfl, rfl, rfl⟩ := hrel
    by_cases hlt : j < l.length
    · have hcj := h1.at j hlt
      have hsn := leg_snoc l j hlt
      have hn := leg_take_lt l j hj
      have hx := (l[j]).toNat_lt
      have hor := or_more (leg (l.take j)) l[j].toNat j hn (by omega) (by omega)
      have hp := pow_le8 j (by omega)
      generalize l[j].toNat = x at *
      generalize leg (l.take j) = y at *
      have i1 : (0 : Int) ≤ (j : Int) := by omega
      have i2 : (j : Int) < (l.length : Int) := by omega
      have HSN := Lib.hid hsn
      have HN := Lib.hid hn
      have HP := Lib.hid hp
      have HO := Lib.hid hor
      clear hsn hn hp h h1 hor
      go_wp2_with fail
      refine ⟨⟨j + 1, by omega, congrArg (Value.int .i64) (by omega), ?_, trivial⟩, ?_⟩
      · rw [HO.out, HSN.out]
      · show l.length - ((j : Int) + 1).toNat < l.length - (j : Int).toNat
        omega
    · obtain rfl : j = l.length := by omega
      rw [List.take_length]
      clear h h1
      go_wp2
      go_ret2
      exact ⟨rfl, hb1⟩
end Go.Proofs.Ytdiokmaomglefaa
/- Heads of frames: frame.sizes, within, Check. -/
namespace Go.Proofs.Ytdiokmaomglefaa
open Go Go.RowKit

def sizesV : List Value := [.int .i64 1, .int .i64 1, .int .i64 2, .int .i64 4, .int .i64 8, .int .i64 4]
theorem sizes_any (w : World) :
    Calls Try.prog 43 #[] w fun e w' => (∃ g, e = .returned (.slice (some ⟨g, 0, none⟩) 6 6) ∧ Rw 1 w' (.slice (some ⟨g, 0, none⟩) 6 6) 6 sizesV) ∧ Below w.heap.size w w' := by
  have hb0 : Below w.heap.size w (w.alloc (.cells sizesV.toArray 3)) := (Below.refl _ w).alloc (Nat.le_refl _) _
  have hr := rw_alloc 1 w 6 sizesV 3 rfl (by decide)
  go_enter Try.func43, Try.ntmps43
  go_wp2_with fail
  go_ret
  exact ⟨⟨_, rfl, hr⟩, hb0⟩
theorem within_is (n lo hi : Int) (b : Bool) (h : decide (lo ≤ n ∧ n ≤ hi) = b) (w : World) :
    Calls Try.prog 41 #[.int .i64 n, .int .i64 lo, .int .i64 hi] w fun e w' => e = .returned (.bool b) ∧ w' = w := by
  by_cases h1 : lo ≤ n
  · by_cases h2 : n ≤ hi
    · obtain rfl : b = true := by rw [← h]; exact decide_eq_true ⟨h1, h2⟩
      clear h
      go_enter Try.func41, Try.ntmps41
      go_wp2_with fail
      go_ret
      exact ⟨rfl, rfl⟩
    · obtain rfl : b = false := by rw [← h]; exact decide_eq_false (fun h => h2 h.2)
      clear h
      go_enter Try.func41, Try.ntmps41
      go_wp2_with fail
      go_ret
      exact ⟨rfl, rfl⟩
  · obtain rfl : b = false := by rw [← h]; exact decide_eq_false (fun h => h1 h.1)
    clear h
    go_enter Try.func41, Try.ntmps41
    go_wp2_with fail
    go_ret
    exact ⟨rfl, rfl⟩
def hv (h : Hd) : Array Value := #[.int .i64 h.kind, .int .i64 h.lba, .int .i64 h.len, .int .i64 h.seq, .int .i64 h.epoch]
set_option maxHeartbeats 2000000 in
theorem hcheck_any (h : Hd) (w : World) :
    Calls Try.prog 57 #[.agg (hv h)] w fun e w' => e = .returned (.int .i64 (if hdOk h = true then 0 else 110)) ∧ Below w.heap.size w w' := by
  obtain ⟨kind, lba, len, seq, epoch⟩ := h
  have hb0 : Below w.heap.size w (w.alloc (.cells #[.int .i64 kind, .int .i64 lba, .int .i64 len, .int .i64 seq, .int .i64 epoch] 46)) := (Below.refl _ w).alloc (Nat.le_refl _) _
  simp only [hv]
  obtain ⟨r, hr⟩ : ∃ r, hdOk ⟨kind, lba, len, seq, epoch⟩ = r := ⟨_, rfl⟩
  rw [hr]
  simp only [hdOk] at hr
  obtain ⟨b1, h1⟩ : ∃ b, decide (1 ≤ kind ∧ kind ≤ 3) = b := ⟨_, rfl⟩
  obtain ⟨b2, h2⟩ : ∃ b, decide (0 ≤ lba ∧ lba ≤ if kind = 1 then 63 else 0) = b := ⟨_, rfl⟩
  obtain ⟨b3, h3⟩ : ∃ b, decide ((if kind = 1 then 64 else 1) ≤ len ∧ len ≤ if kind = 1 then 64 else 4096) = b := ⟨_, rfl⟩
  obtain ⟨b4, h4⟩ : ∃ b, decide (0 ≤ seq ∧ seq ≤ 4611686018427387903) = b := ⟨_, rfl⟩
  obtain ⟨b5, h5⟩ : ∃ b, decide (0 ≤ epoch ∧ epoch ≤ 4294967295) = b := ⟨_, rfl⟩
  rw [h1, h2, h3, h4, h5] at hr
  have H1 := Lib.hid h1
  have H4 := Lib.hid h4
  have H5 := Lib.hid h5
  have HR := Lib.hid hr
  clear h1 h4 h5 hr
  by_cases hk : kind = 1
  · simp only [hk, if_true] at h2 h3
    have H2 := Lib.hid h2
    have H3 := Lib.hid h3
    clear h2 h3
    subst hk
    cases b1
    · exact absurd H1.out (by decide)
    cases b2
    · obtain rfl : r = false := by rw [← HR.out]; simp
      go_enter Try.func57, Try.ntmps57
      go_wp2_with fail
      refine (within_is 1 1 3 _ H1.out _).mono ?_
      rintro e w1 ⟨rfl, rfl⟩
      go_wp2_with fail
      refine (within_is lba 0 63 _ H2.out _).mono ?_
      rintro e w2 ⟨rfl, rfl⟩
      go_wp2
      go_ret
      exact ⟨rfl, hb0⟩
    cases b3
    · obtain rfl : r = false := by rw [← HR.out]; simp
      go_enter Try.func57, Try.ntmps57
      go_wp2_with fail
      refine (within_is 1 1 3 _ H1.out _).mono ?_
      rintro e w1 ⟨rfl, rfl⟩
      go_wp2_with fail
      refine (within_is lba 0 63 _ H2.out _).mono ?_
      rintro e w2 ⟨rfl, rfl⟩
      go_wp2_with fail
      refine (within_is len 64 64 _ H3.out _).mono ?_
      rintro e w3 ⟨rfl, rfl⟩
      go_wp2
      go_ret
      exact ⟨rfl, hb0⟩
    cases b4
    · obtain rfl : r = false := by rw [← HR.out]; simp
      go_enter Try.func57, Try.ntmps57
      go_wp2_with fail
      refine (within_is 1 1 3 _ H1.out _).mono ?_
      rintro e w1 ⟨rfl, rfl⟩
      go_wp2_with fail
      refine (within_is lba 0 63 _ H2.out _).mono ?_
      rintro e w2 ⟨rfl, rfl⟩
      go_wp2_with fail
      refine (within_is len 64 64 _ H3.out _).mono ?_
      rintro e w3 ⟨rfl, rfl⟩
      go_wp2_with fail
      refine (within_is seq 0 4611686018427387903 _ H4.out _).mono ?_
      rintro e w4 ⟨rfl, rfl⟩
      go_wp2
      go_ret
      exact ⟨rfl, hb0⟩
    cases b5
    · obtain rfl : r = false := by rw [← HR.out]; simp
      go_enter Try.func57, Try.ntmps57
      go_wp2_with fail
      refine (within_is 1 1 3 _ H1.out _).mono ?_
      rintro e w1 ⟨rfl, rfl⟩
      go_wp2_with fail
      refine (within_is lba 0 63 _ H2.out _).mono ?_
      rintro e w2 ⟨rfl, rfl⟩
      go_wp2_with fail
      refine (within_is len 64 64 _ H3.out _).mono ?_
      rintro e w3 ⟨rfl, rfl⟩
      go_wp2_with fail
      refine (within_is seq 0 4611686018427387903 _ H4.out _).mono ?_
      rintro e w4 ⟨rfl, rfl⟩
      go_wp2_with fail
      refine (within_is epoch 0 4294967295 _ H5.out _).mono ?_
      rintro e w5 ⟨rfl, rfl⟩
      go_wp2
      go_ret
      exact ⟨rfl, hb0⟩
    obtain rfl : r = true := by rw [← HR.out]; rfl
    go_enter Try.func57, Try.ntmps57
    go_wp2_with fail
    refine (within_is 1 1 3 _ H1.out _).mono ?_
    rintro e w1 ⟨rfl, rfl⟩
    go_wp2_with fail
    refine (within_is lba 0 63 _ H2.out _).mono ?_
    rintro e w2 ⟨rfl, rfl⟩
    go_wp2_with fail
    refine (within_is len 64 64 _ H3.out _).mono ?_
    rintro e w3 ⟨rfl, rfl⟩
    go_wp2_with fail
    refine (within_is seq 0 4611686018427387903 _ H4.out _).mono ?_
    rintro e w4 ⟨rfl, rfl⟩
    go_wp2_with fail
    refine (within_is epoch 0 4294967295 _ H5.out _).mono ?_
    rintro e w5 ⟨rfl, rfl⟩
    go_wp2
    go_ret
    exact ⟨rfl, hb0⟩
  · simp only [hk, if_false] at h2 h3
    have H2 := Lib.hid h2
    have H3 := Lib.hid h3
    clear h2 h3
    cases b1
    · obtain rfl : r = false := by rw [← HR.out]; simp
      go_enter Try.func57, Try.ntmps57
      go_wp2_with fail
      refine (within_is kind 1 3 _ H1.out _).mono ?_
      rintro e w1 ⟨rfl, rfl⟩
      go_wp2
      go_ret
      exact ⟨rfl, hb0⟩
    cases b2
    · obtain rfl : r = false := by rw [← HR.out]; simp
      go_enter Try.func57, Try.ntmps57
      go_wp2_with fail
      refine (within_is kind 1 3 _ H1.out _).mono ?_
      rintro e w1 ⟨rfl, rfl⟩
      go_wp2_with fail
      refine (within_is lba 0 0 _ H2.out _).mono ?_
      rintro e w2 ⟨rfl, rfl⟩
      go_wp2
      go_ret
      exact ⟨rfl, hb0⟩
    cases b3
    · obtain rfl : r = false := by rw [← HR.out]; simp
      go_enter Try.func57, Try.ntmps57
      go_wp2_with fail
      refine (within_is kind 1 3 _ H1.out _).mono ?_
      rintro e w1 ⟨rfl, rfl⟩
      go_wp2_with fail
      refine (within_is lba 0 0 _ H2.out _).mono ?_
      rintro e w2 ⟨rfl, rfl⟩
      go_wp2_with fail
      refine (within_is len 1 4096 _ H3.out _).mono ?_
      rintro e w3 ⟨rfl, rfl⟩
      go_wp2
      go_ret
      exact ⟨rfl, hb0⟩
    cases b4
    · obtain rfl : r = false := by rw [← HR.out]; simp
      go_enter Try.func57, Try.ntmps57
      go_wp2_with fail
      refine (within_is kind 1 3 _ H1.out _).mono ?_
      rintro e w1 ⟨rfl, rfl⟩
      go_wp2_with fail
      refine (within_is lba 0 0 _ H2.out _).mono ?_
      rintro e w2 ⟨rfl, rfl⟩
      go_wp2_with fail
      refine (within_is len 1 4096 _ H3.out _).mono ?_
      rintro e w3 ⟨rfl, rfl⟩
      go_wp2_with fail
      refine (within_is seq 0 4611686018427387903 _ H4.out _).mono ?_
      rintro e w4 ⟨rfl, rfl⟩
      go_wp2
      go_ret
      exact ⟨rfl, hb0⟩
    cases b5
    · obtain rfl : r = false := by rw [← HR.out]; simp
      go_enter Try.func57, Try.ntmps57
      go_wp2_with fail
      refine (within_is kind 1 3 _ H1.out _).mono ?_
      rintro e w1 ⟨rfl, rfl⟩
      go_wp2_with fail
      refine (within_is lba 0 0 _ H2.out _).mono ?_
      rintro e w2 ⟨rfl, rfl⟩
      go_wp2_with fail
      refine (within_is len 1 4096 _ H3.out _).mono ?_
      rintro e w3 ⟨rfl, rfl⟩
      go_wp2_with fail
      refine (within_is seq 0 4611686018427387903 _ H4.out _).mono ?_
      rintro e w4 ⟨rfl, rfl⟩
      go_wp2_with fail
      refine (within_is epoch 0 4294967295 _ H5.out _).mono ?_
      rintro e w5 ⟨rfl, rfl⟩
      go_wp2
      go_ret
      exact ⟨rfl, hb0⟩
    obtain rfl : r = true := by rw [← HR.out]; rfl
    go_enter Try.func57, Try.ntmps57
    go_wp2_with fail
    refine (within_is kind 1 3 _ H1.out _).mono ?_
    rintro e w1 ⟨rfl, rfl⟩
    go_wp2_with fail
    refine (within_is lba 0 0 _ H2.out _).mono ?_
    rintro e w2 ⟨rfl, rfl⟩
    go_wp2_with fail
    refine (within_is len 1 4096 _ H3.out _).mono ?_
    rintro e w3 ⟨rfl, rfl⟩
    go_wp2_with fail
    refine (within_is seq 0 4611686018427387903 _ H4.out _).mono ?_
    rintro e w4 ⟨rfl, rfl⟩
    go_wp2_with fail
    refine (within_is epoch 0 4294967295 _ H5.out _).mono ?_
    rintro e w5 ⟨rfl, rfl⟩
    go_wp2
    go_ret
    exact ⟨rfl, hb0⟩
end Go.Proofs.Ytdiokmaomglefaa
/- Bytes as numbers, by a head's sizes: fix.Split. -/
namespace Go.Proofs.Ytdiokmaomglefaa
open Go Go.RowKit

theorem info_u64 : (Try.prog.info? 91).map (fun i => (i.zero, i.size, i.bytes)) = some (some (.int .u64 0), 1, 8) := by kernel_rfl
/-- append(v, src...) as a step of a drawn region. -/
theorem step_append_rw {P : Program} (w : World) {ops : Array Oper} {o : Oper} {a : Act} {Q : Exit → Act → World → Prop} {K : Act → World → Prop} (hw : Region.wanted o (yielded ops a.tmps) = true) (s x : Operand) (t : TypeId)
    (ho : o.op = .call { callee := .builtin .append, args := #[s, x], argTypes := #[t, t] })
    (base : Nat) (e : TypeId) (i : TypeInfo) (z : Value) (sz bytes : Nat) (ht : P.underlying t = some (.slice e)) (hi : P.info? e = some i) (hz : i.zero = some z)
    (hsize : i.size = sz) (hby : i.bytes = bytes) (hzs : z.cells.size = sz) (hsz : 0 < sz)
    (v : Value) (n : Nat) (xs : List Value) (hs : a.eval s = v) (hown : w.ownsRow base e sz v n xs)
    (src : Value) (m : Nat) (cs : List Value) (hx : a.eval x = src) (hsrc : Rw sz w src m cs) (h1 : ∀ u ∈ cs, u.oneCell' = true)
    (hmax : n + m ≤ maxLen) (hbytes : (n + m) * bytes ≤ 140737488355328) (hbase : base ≤ w.heap.size)
    (h : ∀ v' w', w'.ownsRow base e sz v' (n + m) (xs ++ cs) → w.grownBy w' v.ownBlock → K (a.put o.dst v') w') : if Region.wanted o (yielded ops a.tmps) then o.wp P a w K Q else K (a.put o.dst undef) w := by
  rw [if_pos hw]
  obtain ⟨ao, cap, rfl, hcl, h0, hm, hm2, hc⟩ := hsrc
  cases ao with
  | none =>
    obtain rfl : cap = 0 := h0 rfl
    obtain rfl : m = 0 := by omega
    obtain rfl : cs = [] := List.eq_nil_of_length_eq_zero (by omega)
    have hrun := run_append_owned_none (P := P) (w := w) base t o.type e i sz ht hi v n xs hown
    unfold Oper.wp
    simp [execOp, ho, resolve, invoke, builtin, hs, hx, hrun, Result.andThen]
    exact h v w (by simpa using hown) (World.grownBy.refl _ _)
  | some ad =>
    refine wp_append_own w s x t ho base e i z sz bytes ht hi hz hsize hby hzs hsz v n xs hs hown ad m cap cs hx hcl ?_ h1 hmax hbytes hbase (fun v' w' h2 h3 _ => h v' w' h2 h3)
    intro j u hj
    have hm0 : m ≠ 0 := by
      rintro rfl
      simp at hcl
      subst hcl
      simp at hj
    obtain ⟨b, off, e, hb, hcell⟩ := hc hm0
    obtain rfl := Option.some.inj e
    rw [show (⟨b, off, none⟩ : Addr).add j = ⟨b, off + j, none⟩ from Go.WideShapes.add_plain _ _ _]
    exact hcell j u hj
def szs : List Nat := [1, 1, 2, 4, 8, 4]
def offs (j : Nat) : Nat := (szs.take j).sum
def snums (l : List UInt8) (j : Nat) : List Value := (List.range j).map fun i => .int .u64 (leg ((l.drop (offs i)).take (szs.getD i 0)))
theorem snums_succ (l : List UInt8) (j : Nat) : snums l (j + 1) = snums l j ++ [.int .u64 (leg ((l.drop (offs j)).take (szs.getD j 0)))] := by simp [snums, List.range_succ]
theorem snums_length (l : List UInt8) (j : Nat) : (snums l j).length = j := by simp [snums]
theorem szs_dec : ∀ j : Fin 6, ((szs.getD j.val 0) = 1 ∨ (szs.getD j.val 0) = 2 ∨ (szs.getD j.val 0) = 4 ∨ (szs.getD j.val 0) = 8) ∧ offs (j.val + 1) = offs j.val + szs.getD j.val 0 ∧ offs j.val + szs.getD j.val 0 ≤ 20 := by decide
theorem szs_val : ∀ j : Fin 6, sizesV[j.val]? = some (.int .i64 (szs.getD j.val 0))
  | ⟨0, _⟩ => rfl
  | ⟨1, _⟩ => rfl
  | ⟨2, _⟩ => rfl
  | ⟨3, _⟩ => rfl
  | ⟨4, _⟩ => rfl
  | ⟨5, _⟩ => rfl
set_option maxHeartbeats 2000000 in
set_option maxRecDepth 100000 in
theorem split_any (g cap : Nat) (b off : Nat) (l : List UInt8) (hl : l.length = 20) (w : World) (h1 : Rw 1 w (.slice (some ⟨g, 0, none⟩) 6 6) 6 sizesV) (h2 : Bt w (.slice (some ⟨b, off, none⟩) 20 cap) l) :
    Calls Try.prog 42 #[.slice (some ⟨g, 0, none⟩) 6 6, .slice (some ⟨b, off, none⟩) 20 cap] w fun e w' => (∃ v, e = .returned (.tuple #[v, .int .i64 0]) ∧ Rw 1 w' v 6 (snums l 6)) ∧ Below w.heap.size w w' := by
  obtain ⟨i0, hi, hz0, hz1, hz2⟩ := info_parts info_u64
  obtain ⟨h20, p1, p2, _⟩ := h2.len
  clear h20
  rw [hl] at p1
  go_enter Try.func42, Try.ntmps42
  go_wp2_with fail
  go_loopw [1, 4, 7, 8, 9, 12] (fun x v _ _ _ i wr => ∃ j o r q : Nat, j ≤ 6 ∧ i = .int .i64 j ∧ o = offs j ∧ r + o = 20 ∧ q + o = cap ∧ (∃ a, x = .slice a r q ∧ (0 < r → a = some ⟨b, off + o, none⟩)) ∧ wr.ownsRow w.heap.size 91 1 v j (snums l j) ∧ Below w.heap.size w wr) (fun _ _ _ _ _ i _ => 6 - (intOf i).toNat)
  case atStart => exact ⟨0, 0, 20, cap, by omega, rfl, rfl, by omega, by omega, ⟨_, rfl, fun _ => rfl⟩, World.ownsRow_nil _ _ _ _, Below.refl _ _⟩
  case round =>
    obtain ⟨j, o, r, q, hj, rfl, ho, hr20, hqc, ⟨ax, rfl, hax⟩, hor, hbr⟩ := hrel
    by_cases hlt : j < 6
    · obtain ⟨hs, ho2, hle⟩ := szs_dec ⟨j, hlt⟩
      have hsz := szs_val ⟨j, hlt⟩
      simp only at hs ho2 hle hsz
      rw [← ho] at ho2 hle
      have hsn := snums_succ l j
      rw [← ho] at hsn
      obtain ⟨s, hss⟩ : ∃ s, szs.getD j 0 = s := ⟨_, rfl⟩
      rw [hss] at hs ho2 hle hsz hsn
      obtain rfl := hax (by omega)
      clear hax
      obtain ⟨g', o', e, hg, hrg⟩ := (h1.below hbr).where (by decide)
      cases e
      have hcs := hrg j _ hsz
      rw [Nat.zero_add] at hcs
      have hpart := (h2.below hbr).part o s s (by omega) (Nat.le_refl _) (by omega)
      have hs1 : (s : Int) = 1 ∨ (s : Int) = 2 ∨ (s : Int) = 4 ∨ (s : Int) = 8 := by omega
      have HS := Lib.hid hs
      have HS1 := Lib.hid hs1
      have HO := Lib.hid ho2
      have HSN := Lib.hid hsn
      have hs8 : s ≤ 8 := by omega
      have hs0 : 1 ≤ s := by omega
      have i0' : (0 : Int) ≤ (s : Int) := by omega
      have i1 : (0 : Int) ≤ (j : Int) := by omega
      have i2 : (j : Int) < 6 := by omega
      have i3 : (s : Int) ≤ (r : Int) := by omega
      have i4 : (s : Int) ≤ (q : Int) := by omega
      have i5 : (r : Int) ≤ (q : Int) := by omega
      have j6 : j ≤ 6 := by omega
      have HR20 := Lib.hid hr20
      have HQC := Lib.hid hqc
      have HO0 := Lib.hid ho
      have HLE := Lib.hid hle
      clear hs hs1 ho2 hsn hsz hss hrg h1 h2 ho hr20 hqc hle
      go_wp2_with fail
      refine (may_any _ HS1.out _).mono ?_
      rintro e w3 ⟨rfl, hb3⟩
      go_wp2_with fail
      refine (get_any _ s _ _ HS.out _ (hpart.below hb3)).mono ?_
      rintro e w4 ⟨rfl, hb4⟩
      have hb34 := hb3.trans (hb4.mono hb3.size)
      have hb4a : Below wr.heap.size wr (w4.alloc (.cells #[.int .u64 (leg ((l.drop o).take s))] 91)).drew := (hb34.alloc hb34.size _).drew
      have hz4 := hb34.size
      have hzr := hbr.size
      go_wp2_with fail
      refine wp_region_noPanic ?_
      refine wp_region_held_drew (S := (fun _ => True)) (by kernel_rfl) ?_ (fun hHeld => ?_)
      · trivial
      refine takeL 0 (v := ?_) rfl (by kernel_rfl) (by kernel_rfl) (by kernel_rfl) (fun _ _ _ h => h) (Or.inl ⟨by rfl, ?_⟩) (by assumption) ?_
      rotate_left
      · (intro w hSw; go_simp; try with_reducible rfl)
      (try simp only [Act.put, List.setIfInBounds_toArray, List.set_cons_zero, List.set_cons_succ])
      refine takeL 1 (v := ?_) rfl (by kernel_rfl) (by kernel_rfl) (by kernel_rfl) (fun _ _ _ h => h) (Or.inl ⟨by rfl, ?_⟩) (by assumption) ?_
      rotate_left
      · (intro w hSw; go_simp; try with_reducible rfl)
      (try simp only [Act.put, List.setIfInBounds_toArray, List.set_cons_zero, List.set_cons_succ])
      refine takeL 4 (v := ?_) rfl (by kernel_rfl) (by kernel_rfl) (by kernel_rfl) (fun _ _ _ h => h) (Or.inl ⟨by rfl, ?_⟩) (by assumption) ?_
      rotate_left
      · (intro w hSw; go_simp; try with_reducible rfl)
      (try simp only [Act.put, List.setIfInBounds_toArray, List.set_cons_zero, List.set_cons_succ])
      refine takeL 5 (v := ?_) rfl (by kernel_rfl) (by kernel_rfl) (by kernel_rfl) (fun _ _ _ h => h) (Or.inl ⟨by rfl, ?_⟩) (by assumption) ?_
      rotate_left
      · (intro w hSw; go_simp; try with_reducible rfl)
      (try simp only [Act.put, List.setIfInBounds_toArray, List.set_cons_zero, List.set_cons_succ])
      refine takeL 6 (v := ?_) rfl (by kernel_rfl) (by kernel_rfl) (by kernel_rfl) (fun _ _ _ h => h) (Or.inl ⟨by rfl, ?_⟩) (by assumption) ?_
      rotate_left
      · (intro w hSw; go_simp; try with_reducible rfl)
      (try simp only [Act.put, List.setIfInBounds_toArray, List.set_cons_zero, List.set_cons_succ])
      refine stepL 2 rfl (by kernel_rfl) (fun K hK => ?_)
      go_simp
      refine hK.out _ _ ?_ (fun hHeld => ?_)
      · trivial
      clear hK K
      (try simp only [Act.put, List.setIfInBounds_toArray, List.set_cons_zero, List.set_cons_succ])
      refine stepL 3 rfl (by kernel_rfl) (fun K hK => ?_)
      (refine step_append_rw _ (by rfl) _ _ 87 (by rfl) w.heap.size 91 i0 (.int .u64 0) 1 8 Try.underlying87 hi hz0 hz1 hz2 rfl (by decide) _ j _ (by rfl) (owns_below hor hb4a) _ 1 [.int .u64 (leg ((l.drop o).take s))] (by rfl) (rw_alloc 1 _ 1 [.int .u64 (leg ((l.drop o).take s))] _ rfl (by decide)) (by intro u hu; simp at hu; subst hu; rfl) (by unfold maxLen; omega) (by omega) (by simp; omega) ?_; intro v5 w5 hown5 hg5)
      refine hK.out _ _ ?_ (fun hHeld => ?_)
      · trivial
      clear hK K
      (try simp only [Act.put, List.setIfInBounds_toArray, List.set_cons_zero, List.set_cons_succ])
      refine takeL 7 (v := ?_) rfl (by kernel_rfl) (by kernel_rfl) (by kernel_rfl) (fun _ _ _ h => h) (Or.inl ⟨by rfl, ?_⟩) (by assumption) ?_
      rotate_left
      · (intro w hSw; go_simp; try with_reducible rfl)
      (try simp only [Act.put, List.setIfInBounds_toArray, List.set_cons_zero, List.set_cons_succ])
      refine takeL 8 (v := ?_) rfl (by kernel_rfl) (by kernel_rfl) (by kernel_rfl) (fun _ _ _ h => h) (Or.inl ⟨by rfl, ?_⟩) (by assumption) ?_
      rotate_left
      · (intro w hSw; go_simp; try with_reducible rfl)
      (try simp only [Act.put, List.setIfInBounds_toArray, List.set_cons_zero, List.set_cons_succ])
      refine wpAnyH_done (by kernel_rfl) ?_ _
      refine NoPanic.normal ?_
      have hb5 : Below w.heap.size w w5 := (hbr.trans (hb4a.mono hzr)).grown hg5 (by have := hb4a.size; omega) (fun k hk => ((owns_below hor hb4a).lt k hk).1)
      clear hb4a hg5
      go_wp2
      go_roundw
      case rel =>
        have hr20 := HR20.out
        have hqc := HQC.out
        have ho2 := HO.out
        have hle := HLE.out
        refine ⟨j + 1, o + s, r - s, q - s, by omega, congrArg (Value.int .i64) (by omega), ho2.symm, by omega, by omega, ⟨_, rfl, fun h => ?_⟩, ?_, hb5⟩
        · rw [if_neg (by omega), Nat.add_assoc]
        · rw [HSN.out]
          exact hown5
      case measure =>
        show 6 - ((j : Int) + 1).toNat < 6 - (j : Int).toNat
        omega
    · obtain rfl : j = 6 := by omega
      have ho6 : o = 20 := ho
      obtain rfl : r = 0 := by omega
      clear h1 h2 hax ho hr20 hqc ho6
      go_wp2
      go_ret2
      exact ⟨⟨_, rfl, own_rw hor⟩, hbr⟩
end Go.Proofs.Ytdiokmaomglefaa
