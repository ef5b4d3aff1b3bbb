import Derived.Below
import Derived.WalkSmall
import Derived.WalkKit
import Derived.ProofKit
import Derived.OpenShut
import Derived.Deep.QuietTactic
import Derived.Deep.MidRow
import Derived.Deep.RegionHeld3
import Derived.Lib.Hide
import Derived.Laws.OwnMore
import Derived.Test.YtdiokmaomglefaaProg
import Derived.Laws.Tables
import Derived.Deep.Slices
/- Slices that read as bytes, with their room: fresh blocks, own rows, parts. -/
namespace Go.Proofs.Ytdiokmaomglefaa
open Go Go.RowKit

theorem below_next {a w w' : World} (h : Below w.heap.size w w') {B : Nat} (hb : Below B a w) (hB : B ≤ w.heap.size) : Below B a w' := hb.trans (h.mono hB)
theorem below_self_drew (w : World) : Below w.heap.size w w.drew := (Below.refl _ w).drew
def bv (b : UInt8) : Value := .int .u8 b.toNat
theorem bv_one (l : List UInt8) : ∀ v ∈ l.map bv, v.oneCell' = true := by
  intro v hv
  obtain ⟨b, _, rfl⟩ := List.mem_map.1 hv
  rfl
/-- A slice value that reads, in a world, as a list of bytes. -/
def Bt (w : World) (v : Value) (l : List UInt8) : Prop :=
  ∃ (a : Option Addr) (cap : Nat), v = .slice a l.length cap ∧ (a = none → cap = 0) ∧ l.length ≤ cap ∧ cap ≤ maxLen ∧ l.length ≤ 140737488355328 ∧ (l ≠ [] → ∃ b off, a = some ⟨b, off, none⟩ ∧ b < w.heap.size ∧ ∀ j, j < l.length → w.cell? ⟨b, off + j, none⟩ = some (bv (l[j]?.getD 0)))
theorem Bt.below {w w' : World} {v : Value} {l : List UInt8} (h : Bt w v l) (hb : Below w.heap.size w w') : Bt w' v l := by
  obtain ⟨a, cap, hv, h0, h1, h2, hl, hc⟩ := h
  refine ⟨a, cap, hv, h0, h1, h2, hl, fun hne => ?_⟩
  obtain ⟨b, off, ha, hlt, hcell⟩ := hc hne
  exact ⟨b, off, ha, Nat.lt_of_lt_of_le hlt hb.size, fun j hj => (hb.cell (p := ⟨b, off + j, none⟩) hlt).trans (hcell j hj)⟩
theorem bt_nil (w : World) : Bt w (.slice none 0 0) [] := ⟨none, 0, rfl, fun _ => rfl, by simp, by unfold maxLen; omega, by simp, fun h => absurd rfl h⟩
theorem Bt.len {w : World} {a : Option Addr} {n cap : Nat} {l : List UInt8} (h : Bt w (.slice a n cap) l) : n = l.length ∧ l.length ≤ cap ∧ cap ≤ maxLen ∧ l.length ≤ 140737488355328 := by
  obtain ⟨a', cap', e, _, h1, h2, h3, _⟩ := h
  cases e
  exact ⟨rfl, h1, h2, h3⟩
theorem Bt.where {w : World} {a : Option Addr} {n cap : Nat} {l : List UInt8} (h : Bt w (.slice a n cap) l) (hl : 0 < l.length) :
    ∃ b off, a = some ⟨b, off, none⟩ ∧ b < w.heap.size ∧ ∀ j, j < l.length → w.cell? ⟨b, off + j, none⟩ = some (bv (l[j]?.getD 0)) := by
  obtain ⟨a', cap', e, _, _, _, _, hc⟩ := h
  cases e
  exact hc (by intro h; simp [h] at hl)
theorem bt_alloc (w : World) (l : List UInt8) (t : TypeId) (hl : l.length ≤ 140737488355328) : Bt (w.alloc (.cells (l.map bv).toArray t)) (.slice (some ⟨w.heap.size, 0, none⟩) l.length l.length) l := by
  refine ⟨_, _, rfl, (fun h => by cases h), Nat.le_refl _, by unfold maxLen; omega, hl, fun _ => ⟨w.heap.size, 0, rfl, by simp, fun j hj => ?_⟩⟩
  rw [World.cell?_alloc_at _ _ _ _ rfl]
  simp [hj, bv]
theorem own_bt {w : World} {B : Nat} {e : TypeId} {v : Value} {l : List UInt8} (h : w.ownsRow B e 1 v l.length (l.map bv)) (hl : l.length ≤ 140737488355328) : Bt w v l := by
  rcases h.2 with ⟨rfl, h0⟩ | ⟨g, cap, cur, rfl, hg, hh, hn, hm, r⟩
  · have : l = [] := List.eq_nil_of_length_eq_zero h0
    subst this
    exact bt_nil w
  · refine ⟨_, _, rfl, (fun h => by cases h), hn, hm, hl, fun _ => ⟨g, 0, rfl, (Array.getElem?_eq_some_iff.1 hh).1, fun j hj => ?_⟩⟩
    have hc := h.cells (g := g) rfl j (bv (l[j])) (by simp [hj])
    have ha : (⟨g, 0, none⟩ : Addr).add j = ⟨g, 0 + j, none⟩ := by unfold Addr.add; split <;> simp_all
    rw [ha] at hc
    rw [hc, List.getElem?_eq_getElem hj]; rfl
theorem owns_below {w w' : World} {B n sz : Nat} {e : TypeId} {v : Value} {xs : List Value} (h : w.ownsRow B e sz v n xs) (hb : Below w.heap.size w w') : w'.ownsRow B e sz v n xs :=
  h.kept (row := none) ⟨hb.os, hb.tape, hb.output, hb.size, fun k hk _ => hb.block k hk⟩ (by cases v.ownBlock <;> simp)
theorem owns_base {w : World} {B B' n sz : Nat} {e : TypeId} {v : Value} {xs : List Value} (h : w.ownsRow B e sz v n xs) (hB : B' ≤ B) : w.ownsRow B' e sz v n xs := by
  obtain ⟨h1, h2⟩ := h
  refine ⟨h1, ?_⟩
  rcases h2 with h2 | ⟨g, cap, cur, hv, hg, r⟩
  · exact Or.inl h2
  · exact Or.inr ⟨g, cap, cur, hv, Nat.le_trans hB hg, r⟩
theorem own_on {w w' : World} {B n sz : Nat} {e : TypeId} {v : Value} {xs : List Value} (h : w.ownsRow B e sz v n xs) (hs : ∀ k, B ≤ k → w'.heap[k]? = w.heap[k]?) : w'.ownsRow B e sz v n xs := by
  refine ⟨h.1, ?_⟩
  rcases h.2 with h0 | ⟨g, cap, cur, hv, hg, hh, h1⟩
  · exact Or.inl h0
  · exact Or.inr ⟨g, cap, cur, hv, hg, (hs g hg).trans hh, h1⟩
/-- A part of a slice of bytes: from i on, so many, with whatever room. -/
theorem Bt.part {w : World} {b off n cap : Nat} {l : List UInt8} (h : Bt w (.slice (some ⟨b, off, none⟩) n cap) l) (i m c : Nat) (hm : i + m ≤ l.length) (hc : m ≤ c) (hc2 : c ≤ maxLen) :
    Bt w (.slice (some ⟨b, off + i, none⟩) m c) ((l.drop i).take m) := by
  obtain ⟨a', cap', e, h0, h1, h2, h3, hcell⟩ := h
  cases e
  have hL : ((l.drop i).take m).length = m := by simp; omega
  refine ⟨_, c, by rw [hL], (fun h => by cases h), by omega, hc2, by omega, fun hne => ?_⟩
  have hpos : 0 < m := by
    rcases Nat.eq_zero_or_pos m with h | h
    · subst h; exact absurd (by simp) hne
    · exact h
  obtain ⟨b', off', e, hb, hcell⟩ := hcell (by intro h; simp [h] at hm; omega)
  cases e
  refine ⟨b, off + i, rfl, hb, fun j hj => ?_⟩
  rw [hL] at hj
  rw [Nat.add_assoc, hcell (i + j) (by omega)]
  simp [hj]
/-- A byte of a slice. -/
theorem Bt.at {w : World} {b off n cap : Nat} {l : List UInt8} (h : Bt w (.slice (some ⟨b, off, none⟩) n cap) l) (j : Nat) (hj : j < l.length) : w.cell? ⟨b, off + j, none⟩ = some (.int .u8 (l[j].toNat : Int)) := by
  obtain ⟨b', off', e, _, hc⟩ := h.where (by omega)
  cases e
  rw [hc j hj, List.getElem?_eq_getElem hj]
  rfl
end Go.Proofs.Ytdiokmaomglefaa
/- Slices that read as rows of cells, elements of whatever size; append of one onto a row of the call's own. -/
namespace Go.Proofs.Ytdiokmaomglefaa
open Go Go.RowKit

/-- A slice value of n elements, of sz cells each, that reads as these cells. -/
def Rw (sz : Nat) (w : World) (v : Value) (n : Nat) (cs : List Value) : Prop :=
  ∃ (a : Option Addr) (cap : Nat), v = .slice a n cap ∧ cs.length = n * sz ∧ (a = none → cap = 0) ∧ n ≤ cap ∧ cap ≤ maxLen ∧ (n ≠ 0 → ∃ b off, a = some ⟨b, off, none⟩ ∧ b < w.heap.size ∧ w.rangeAt b off cs)
theorem range_below {w w' : World} {b o : Nat} {cs : List Value} (h : w.rangeAt b o cs) (hb : Below w.heap.size w w') (hlt : b < w.heap.size) : w'.rangeAt b o cs :=
  fun j v hj => (hb.cell (p := ⟨b, o + j, none⟩) hlt).trans (h j v hj)
theorem Rw.below {sz : Nat} {w w' : World} {v : Value} {n : Nat} {cs : List Value} (h : Rw sz w v n cs) (hb : Below w.heap.size w w') : Rw sz w' v n cs := by
  obtain ⟨a, cap, hv, hl, h0, h1, h2, hc⟩ := h
  refine ⟨a, cap, hv, hl, h0, h1, h2, fun hne => ?_⟩
  obtain ⟨b, off, ha, hlt, hcell⟩ := hc hne
  exact ⟨b, off, ha, Nat.lt_of_lt_of_le hlt hb.size, range_below hcell hb hlt⟩
theorem rw_nil (sz : Nat) (w : World) : Rw sz w (.slice none 0 0) 0 [] := ⟨none, 0, rfl, by simp, fun _ => rfl, by simp, by unfold maxLen; omega, fun h => absurd rfl h⟩
theorem Rw.len {sz : Nat} {w : World} {a : Option Addr} {n m cap : Nat} {cs : List Value} (h : Rw sz w (.slice a n cap) m cs) : n = m ∧ cs.length = m * sz ∧ m ≤ cap ∧ cap ≤ maxLen := by
  obtain ⟨a', cap', e, hl, _, h1, h2, _⟩ := h
  cases e
  exact ⟨rfl, hl, h1, h2⟩
theorem Rw.where {sz : Nat} {w : World} {a : Option Addr} {n cap : Nat} {cs : List Value} (h : Rw sz w (.slice a n cap) n cs) (hl : 0 < n) :
    ∃ b off, a = some ⟨b, off, none⟩ ∧ b < w.heap.size ∧ w.rangeAt b off cs := by
  obtain ⟨a', cap', e, _, _, _, _, hc⟩ := h
  cases e
  exact hc (by omega)
theorem rw_alloc (sz : Nat) (w : World) (n : Nat) (cs : List Value) (t : TypeId) (hl : cs.length = n * sz) (hn : n ≤ maxLen) : Rw sz (w.alloc (.cells cs.toArray t)) (.slice (some ⟨w.heap.size, 0, none⟩) n n) n cs := by
  refine ⟨_, _, rfl, hl, (fun h => by cases h), Nat.le_refl _, hn, fun _ => ⟨w.heap.size, 0, rfl, by simp, fun j v hj => ?_⟩⟩
  rw [World.cell?_alloc_at _ _ _ _ rfl]
  simpa using hj
theorem own_rw {sz : Nat} {w : World} {B : Nat} {e : TypeId} {v : Value} {n : Nat} {cs : List Value} (h : w.ownsRow B e sz v n cs) : Rw sz w v n cs := by
  rcases h.2 with ⟨rfl, rfl⟩ | ⟨g, cap, cur, rfl, hg, hh, hn, hm, hcs, r⟩
  · have h1 := h.1
    simp at h1
    subst h1
    exact rw_nil sz w
  · refine ⟨_, _, rfl, h.1, (fun h => by cases h), hn, hm, fun _ => ⟨g, 0, rfl, (Array.getElem?_eq_some_iff.1 hh).1, fun j u hj => ?_⟩⟩
    have hc := h.cells (g := g) rfl j u hj
    rwa [show (⟨g, 0, none⟩ : Addr).add j = ⟨g, 0 + j, none⟩ from Go.WideShapes.add_plain _ _ _] at hc
theorem Bt.rw {w : World} {v : Value} {l : List UInt8} (h : Bt w v l) : Rw 1 w v l.length (l.map bv) := by
  obtain ⟨a, cap, hv, h0, h1, h2, _, hc⟩ := h
  refine ⟨a, cap, hv, by simp, h0, h1, h2, fun hne => ?_⟩
  obtain ⟨b, off, ha, hlt, hcell⟩ := hc (by intro h; simp [h] at hne)
  refine ⟨b, off, ha, hlt, fun j u hj => ?_⟩
  have hjl : j < l.length := by
    rcases Nat.lt_or_ge j l.length with h | h
    · exact h
    · simp [List.getElem?_eq_none (show (l.map bv).length ≤ j by simpa using h)] at hj
  rw [hcell j hjl, ← hj]
  simp [hjl]
/-- append(v, src...) onto a row of the call's own, src whatever reads. -/
theorem wpList_append_rw {P : Program} (w : World) {ops : Array Oper} {rest : List Oper} {o : Oper} {a : Act} {Q : Exit → Act → World → Prop} (hw : Region.wanted o (yielded ops a.tmps) = true) (s x : Operand) (t : TypeId)
    (ho : o.op = .call { callee := .builtin .append, args := #[s, x], argTypes := #[t, t] })
    (base : Nat) (e : TypeId) (i : TypeInfo) (z : Value) (sz bytes : Nat) (ht : P.underlying t = some (.slice e)) (hi : P.info? e = some i) (hz : i.zero = some z)
    (hsize : i.size = sz) (hby : i.bytes = bytes) (hzs : z.cells.size = sz) (hsz : 0 < sz)
    (v : Value) (n : Nat) (xs : List Value) (hs : a.eval s = v) (hown : w.ownsRow base e sz v n xs)
    (src : Value) (m : Nat) (cs : List Value) (hx : a.eval x = src) (hsrc : Rw sz w src m cs) (h1 : ∀ u ∈ cs, u.oneCell' = true)
    (hmax : n + m ≤ maxLen) (hbytes : (n + m) * bytes ≤ 140737488355328) (hbase : base ≤ w.heap.size)
    (h : ∀ v' w', w'.ownsRow base e sz v' (n + m) (xs ++ cs) → w.grownBy w' v.ownBlock → wpList P ops Q rest (a.put o.dst v') w') : wpList P ops Q (o :: rest) a w := by
  refine wpList_step fun K hK => ?_
  rw [if_pos hw]
  obtain ⟨ao, cap, rfl, hcl, h0, hm, hm2, hc⟩ := hsrc
  cases ao with
  | none =>
    obtain rfl : cap = 0 := h0 rfl
    obtain rfl : m = 0 := by omega
    obtain rfl : cs = [] := List.eq_nil_of_length_eq_zero (by omega)
    have hrun := run_append_owned_none (P := P) (w := w) base t o.type e i sz ht hi v n xs hown
    unfold Oper.wp
    simp [execOp, ho, resolve, invoke, builtin, hs, hx, hrun, Result.andThen]
    exact hK _ _ (h v w (by simpa using hown) (World.grownBy.refl _ _))
  | some ad =>
    refine wp_append_own w s x t ho base e i z sz bytes ht hi hz hsize hby hzs hsz v n xs hs hown ad m cap cs hx hcl ?_ h1 hmax hbytes hbase (fun v' w' h2 h3 _ => hK _ _ (h v' w' h2 h3))
    intro j u hj
    have hm0 : m ≠ 0 := by
      rintro rfl
      simp at hcl
      subst hcl
      simp at hj
    obtain ⟨b, off, e, hb, hcell⟩ := hc hm0
    obtain rfl := Option.some.inj e
    rw [show (⟨b, off, none⟩ : Addr).add j = ⟨b, off + j, none⟩ from Go.WideShapes.add_plain _ _ _]
    exact hcell j u hj
end Go.Proofs.Ytdiokmaomglefaa
/- Blocks that are known whole: laid, loaded, one cell set. -/
namespace Go.Proofs.Ytdiokmaomglefaa
open Go Go.RowKit

theorem below_setRow {B : Nat} {a w : World} (h : Below B a w) {g : Nat} (hg : B ≤ g) (cs : Array Value) : Below B a (w.setRow g cs) :=
  h.trans ⟨rfl, rfl, rfl, by simp, fun k hk => setRow_other w g k cs (by omega)⟩
/-- What a block holds is laid anew; no other block is touched. -/
structure Laid (w : World) (g : Nat) (cs : Array Value) (t : TypeId) (w2 : World) : Prop where
  blk : w2.heap[g]? = some (.cells cs t (0, 0))
  bel : Below g w w2
  size : w2.heap.size = w.heap.size
  rest : ∀ k, k ≠ g → w2.heap[k]? = w.heap[k]?
theorem wpList_lay {P : Program} {ops : Array Oper} {rest : List Oper} {op : Oper} {a : Act} {w : World} {Q : Exit → Act → World → Prop} (hgd : op.guard = none) (ty : TypeId) (x y : Operand) (ho : op.op = .store ty x y)
    (g : Nat) (cs : Array Value) (hx : a.eval x = .pointer (some ⟨g, 0, none⟩)) (hy : a.eval y = .agg cs)
    (t : TypeId) (old : Array Value) (hg : w.heap[g]? = some (.cells old t (0, 0))) (n : Nat) (hi : (P.info? ty).map (·.size) = some n) (hn : cs.size = n)
    (hold : old.size = n) (h1 : cs.all (·.oneCell') = true)
    (h : ∀ w2, Laid w g cs t w2 → wpList P ops Q rest (a.put op.dst undef) w2) : wpList P ops Q (op :: rest) a w :=
  wpList_store_row hgd ty x y ho g cs hx hy t old hg (by rw [hn]; exact hi) (hold.trans hn.symm) h1 (h _ ⟨setRow_heap _ _ _ _ _ _ hg, below_setRow (Below.refl _ _) (Nat.le_refl _) _, by simp [World.setRow], fun k hk => setRow_other _ _ _ _ hk⟩)
theorem wpList_load_at {P : Program} {ops : Array Oper} {rest : List Oper} {op : Oper} {a : Act} {w : World} {Q : Exit → Act → World → Prop} (hw : Region.wanted op (yielded ops a.tmps) = true) (ty : TypeId) (x : Operand) (ho : op.op = .load ty x)
    (b o : Nat) (hx : a.eval x = .pointer (some ⟨b, o, none⟩)) (cs : List Value) (d : TypeDesc) (hc : w.rangeAt b o cs)
    (hu : P.underlying ty = some d) (hd : d.isRow = true) (hi : (P.info? ty).map (·.size) = some cs.length)
    (h : wpList P ops Q rest (a.put op.dst (.agg cs.toArray)) w) : wpList P ops Q (op :: rest) a w := by
  refine wpList_step fun K hK => ?_
  rw [if_pos hw]
  exact wp_load_mid ty x ho b o hx cs d hc hu hd hi (hK _ _ h)
theorem results_ct {P : Program} {fn : Func} {p u : Tmp} {t1 : TypeId} (h : fn.results = #[.cell p t1, .tmp u]) (tmps : Array Value) (w : World) (g1 : Nat) (e1 : TypeId) (c1 : Array Value) (d1 : TypeDesc) (n : Nat)
    (hp : tmps.getD p undef = .pointer (some ⟨g1, 0, none⟩)) (h1 : w.heap[g1]? = some (.cells c1 e1 (0, 0)))
    (hu1 : P.underlying t1 = some d1) (hd1 : (match d1 with | .struct _ | .array _ _ => true | _ => false) = true) (hi1 : (P.info? t1).map (·.size) = some n) (hn : c1.size = n) :
    (results fn tmps).run P w = .ok (.tuple #[.agg c1, tmps.getD u undef]) w := by
  have hp' : tmps[p]?.getD undef = .pointer (some ⟨g1, 0, none⟩) := by simpa using hp
  simp [results, h, hp', asAddr, run_loadVar_row w g1 e1 t1 c1 (0, 0) d1 h1 hu1 hd1 (by rw [hn]; exact hi1)]
theorem results_tmp4 {fn : Func} {t u v x : Tmp} (h : fn.results = #[.tmp t, .tmp u, .tmp v, .tmp x]) (tmps : Array Value) (P : Program) (w : World) :
    (results fn tmps).run P w = .ok (.tuple #[tmps.getD t undef, tmps.getD u undef, tmps.getD v undef, tmps.getD x undef]) w := by
  simp [results, h]
theorem results_tmp5 {fn : Func} {t u v x y : Tmp} (h : fn.results = #[.tmp t, .tmp u, .tmp v, .tmp x, .tmp y]) (tmps : Array Value) (P : Program) (w : World) :
    (results fn tmps).run P w = .ok (.tuple #[tmps.getD t undef, tmps.getD u undef, tmps.getD v undef, tmps.getD x undef, tmps.getD y undef]) w := by
  simp [results, h]
theorem cell_of_block {w : World} {g : Nat} {cs : Array Value} {t : TypeId} {fr : Nat × Nat} (h : w.heap[g]? = some (.cells cs t fr)) (j : Nat) : w.cell? ⟨g, j, none⟩ = cs[j]? := cell_of_row w g j cs t fr h
theorem range_of_block {w : World} {g : Nat} {cs : List Value} {t : TypeId} {fr : Nat × Nat} (h : w.heap[g]? = some (.cells cs.toArray t fr)) : w.rangeAt g 0 cs := fun j v hj => by
  rw [Nat.zero_add, cell_of_row w g j cs.toArray t fr h]
  simpa using hj
theorem block_lt {w : World} {g : Nat} {o : Obj} (h : w.heap[g]? = some o) : g < w.heap.size := (Array.getElem?_eq_some_iff.1 h).1
theorem blk_on {w w' : World} {D : Nat} {o : Obj} (h : w.heap[D]? = some o) (hb : Below w.heap.size w w') : w'.heap[D]? = some o := (hb.block D (block_lt h)).trans h
theorem thawed {w : World} {S : Nat} {cs : Array Value} {t : TypeId} (h : w.heap[S]? = some (.cells cs t (0, 0))) (j : Nat) : w.frozen? ⟨S, j, none⟩ = false := by
  simp [World.frozen?, h]
/-- One cell of a block that is known whole is set. -/
theorem set_cell {w : World} {S j : Nat} {cs : Array Value} {t : TypeId} (h : w.heap[S]? = some (.cells cs t (0, 0))) (u : Value) : Laid w S (cs.setIfInBounds j u) t (w.setCell ⟨S, j, none⟩ u) :=
  ⟨heap_setCell_same _ _ _ _ _ _ h, (Below.refl S w).setCell (p := ⟨S, j, none⟩) (Nat.le_refl _) _, by simp [World.setCell], fun k hk => heap_setCell_other w ⟨S, j, none⟩ k u (by simpa using hk)⟩
/-- Of what was there, no block but D is touched. -/
structure Upto (D : Nat) (a w : World) : Prop where
  bel : Below D a w
  rest : ∀ k, k ≠ D → k < a.heap.size → w.heap[k]? = a.heap[k]?
theorem Upto.refl (D : Nat) (w : World) : Upto D w w := ⟨Below.refl _ _, fun _ _ _ => rfl⟩
theorem Upto.drew {D : Nat} {a w : World} (h : Upto D a w) : Upto D a w.drew := ⟨h.bel.drew, h.rest⟩
theorem Upto.setRow {D : Nat} {a w : World} (h : Upto D a w) (cs : Array Value) : Upto D a (w.setRow D cs) := ⟨below_setRow h.bel (Nat.le_refl _) _, fun k hk hl => (setRow_other _ _ _ _ hk).trans (h.rest k hk hl)⟩
theorem Upto.cell {D : Nat} {a w : World} (h : Upto D a w) {b o : Nat} (hb : b ≠ D) {v : Value} (hv : a.cell? ⟨b, o, none⟩ = some v) : w.cell? ⟨b, o, none⟩ = some v :=
  (World.cell?_of_block (h.rest b hb (World.block_lt_of_cell? a _ hv))).trans hv
/-- A block holds just this, and nothing below it is touched. -/
structure Still (D : Nat) (cs : Array Value) (t : TypeId) (a w : World) : Prop where
  blk : w.heap[D]? = some (.cells cs t (0, 0))
  bel : Below D a w
theorem Still.drew {D : Nat} {cs : Array Value} {t : TypeId} {a w : World} (h : Still D cs t a w) : Still D cs t a w.drew := ⟨h.blk, h.bel.drew⟩
theorem Still.setRow {D : Nat} {cs old : Array Value} {t : TypeId} {a w : World} (h : Still D old t a w) : Still D cs t a (w.setRow D cs) := ⟨setRow_heap _ _ _ _ _ _ h.blk, below_setRow h.bel (Nat.le_refl _) _⟩
theorem Still.cell {D : Nat} {cs : Array Value} {t : TypeId} {a w : World} (h : Still D cs t a w) (j : Nat) : w.cell? ⟨D, j, none⟩ = cs[j]? := cell_of_block h.blk j
end Go.Proofs.Ytdiokmaomglefaa
/- Plain: numbers as bytes, check sums, heads of frames, frames one behind the other. No program in sight. -/
namespace Go.Proofs.Ytdiokmaomglefaa

/-- A number's bytes, the low one first. -/
def le (n : Nat) : Nat → List UInt8
  | 0 => []
  | s + 1 => UInt8.ofNat n :: le (n / 256) s
theorem le_length (n s : Nat) : (le n s).length = s := by
  induction s generalizing n with
  | zero => rfl
  | succ s ih => simp [le, ih]
/-- The number that bytes are. -/
def leg : List UInt8 → Nat
  | [] => 0
  | b :: l => b.toNat + 256 * leg l
theorem leg_lt (l : List UInt8) : leg l < 256 ^ l.length := by
  induction l with
  | nil => simp [leg]
  | cons b l ih =>
    have := b.toNat_lt
    simp only [leg, List.length_cons, Nat.pow_succ]
    omega
theorem leg_le (n s : Nat) (h : n < 256 ^ s) : leg (le n s) = n := by
  induction s generalizing n with
  | zero => simp at h; subst h; rfl
  | succ s ih =>
    rw [Nat.pow_succ] at h
    simp only [le, leg]
    rw [ih (n / 256) (by omega)]
    simp
    omega
theorem le_leg (l : List UInt8) : le (leg l) l.length = l := by
  induction l with
  | nil => rfl
  | cons b l ih =>
    have := b.toNat_lt
    simp only [leg, List.length_cons, le]
    have h1 : (b.toNat + 256 * leg l) / 256 = leg l := by omega
    rw [h1, ih]
    congr 1
    apply UInt8.toNat_inj.1
    simp

/-- A head. -/
structure Hd where
  kind : Int
  lba : Int
  len : Int
  seq : Int
  epoch : Int
def hd0 : Hd := ⟨0, 0, 0, 0, 0⟩
/-- Whether a head may be. -/
def hdOk (h : Hd) : Bool :=
  decide (1 ≤ h.kind ∧ h.kind ≤ 3) && decide (0 ≤ h.lba ∧ h.lba ≤ if h.kind = 1 then 63 else 0) && decide ((if h.kind = 1 then 64 else 1) ≤ h.len ∧ h.len ≤ if h.kind = 1 then 64 else 4096) && decide (0 ≤ h.seq ∧ h.seq ≤ 4611686018427387903) && decide (0 ≤ h.epoch ∧ h.epoch ≤ 4294967295)
/-- Both halves of a check sum. -/
def adl (l : List UInt8) : Nat × Nat := l.foldl (fun h x => ((h.1 + x.toNat) % 65521, (h.2 + (h.1 + x.toNat) % 65521))) (1, 0)
def adler (l : List UInt8) : Nat := (adl l).2 % 65521 * 65536 + (adl l).1 % 65521
/-- The bytes of a head's numbers, without their sum. -/
def hdBytes (h : Hd) : List UInt8 := le 81 1 ++ le h.kind.toNat 1 ++ le h.len.toNat 2 ++ le h.lba.toNat 4 ++ le h.seq.toNat 8 ++ le h.epoch.toNat 4
def writeH (h : Hd) : Option (List UInt8) := if hdOk h = true then some (hdBytes h ++ le (adler (hdBytes h)) 4) else none
/-- The head that bytes may begin with. -/
def headOf (b : List UInt8) : Hd := ⟨leg ((b.drop 1).take 1), leg ((b.drop 4).take 4), leg ((b.drop 2).take 2), leg ((b.drop 8).take 8), leg ((b.drop 16).take 4)⟩
def readH (b : List UInt8) : Option Hd :=
  if b.length < 24 then none
  else if 4611686018427387903 < leg ((b.drop 8).take 8) then none
  else match writeH (headOf b) with
    | none => none
    | some w => if b.take 24 = w then some (headOf b) else none
def sizeF (n : Int) : Int := if 1 ≤ n ∧ n ≤ 4096 then n + 40 else 0
/-- The frames of bytes from a place on, as far as they go. -/
def scanF : Nat → List UInt8 → Nat → List (Hd × Nat)
  | 0, _, _ => []
  | k + 1, b, at_ =>
    match readH (b.drop at_) with
    | none => []
    | some h => if ((b.length - at_ : Nat) : Int) < sizeF h.len then [] else (h, at_) :: scanF k b (at_ + (sizeF h.len).toNat)
end Go.Proofs.Ytdiokmaomglefaa
/- Plain: zones, devices, and what commands make of them. No program in sight. -/
namespace Go.Proofs.Ytdiokmaomglefaa

structure Zn where
  st : Int
  data : List UInt8
  lasts : Int
structure Dv where
  size : Int
  zs : List Zn
  r0 : List UInt8
  r1 : List UInt8
  f0 : List UInt8
  f1 : List UInt8
  down : Bool
  left : Int
  fault : Int
  done : Int
/-- Whether a zone may be. -/
def zoneOk (size : Int) (z : Zn) : Bool :=
  !decide (size < 1 ∨ 65536 < size ∨ size < (z.data.length : Int) ∨ z.lasts < 0 ∨ (z.data.length : Int) < z.lasts) &&
    decide (z.st = 0 ∧ z.data.length = 0 ∨ z.st = 1 ∧ 0 < z.data.length ∧ (z.data.length : Int) < size ∨ z.st = 2 ∨ z.st = 3 ∨ z.st = 4)
def rootsOk (d : Dv) : Bool := decide (d.r0.length = 128 ∧ (d.f0.length = 0 ∨ d.f0.length = 128) ∧ d.r1.length = 128 ∧ (d.f1.length = 0 ∨ d.f1.length = 128))
def devOk (d : Dv) : Bool := d.zs.all (zoneOk d.size) && rootsOk d && decide (0 < d.zs.length ∧ d.zs.length ≤ 64) && decide (0 < d.size ∧ d.size ≤ 65536)
def openN (zs : List Zn) : Nat := zs.countP fun z => decide (z.st = 1)
def emptyN (zs : List Zn) : Nat := zs.countP fun z => decide (z.st = 0)
/-- The first zone of a state with room for so many; -1: none. -/
def firstP (size st n : Int) (z : Zn) : Bool := decide (z.st = st ∧ n ≤ size - (z.data.length : Int))
def firstZ (size st n : Int) (zs : List Zn) : Option Nat := zs.findIdx? (firstP size st n)
/-- A device that does all that is asked of it. -/
structure Free (d : Dv) : Prop where
  ok : devOk d = true
  up : d.down = false
  left : d.left < 0
  fault : d.fault < 0
/-- A zone with bytes more. -/
def filled (size : Int) (z : Zn) : Zn := { z with st := if z.data.length = 0 then 0 else if (z.data.length : Int) = size then 2 else 1 }
def grow (size : Int) (z : Zn) (b : List UInt8) : Zn := filled size { z with data := z.data ++ b }
def finish (z : Zn) : Zn := { z with st := 2 }
/-- The device behind a command that was done: one more. -/
def tick (d : Dv) : Dv := { d with done := IntKind.i64.wrap (d.done + 1) }
def setZ (d : Dv) (i : Nat) (z : Zn) : Dv := { d with zs := d.zs.set i z }
end Go.Proofs.Ytdiokmaomglefaa
/- Worlds behind a few new blocks. -/
namespace Go.Proofs.Ytdiokmaomglefaa
open Go Go.RowKit

theorem calls_world {P : Program} {f : Nat} {args : Array Value} {w : World} {Q : Ending → World → Prop} (h : ∀ w0, w0 = w → Calls P f args w0 Q) : Calls P f args w Q := h w rfl
theorem code_world {P : Program} {c : Code} {Q : Exit → Act → World → Prop} {a : Act} {w : World} (h : ∀ w0, w0 = w → Code.wp P c Q a w0) : Code.wp P c Q a w := h w rfl
theorem one_alloc {w w0 : World} {o1 : Obj} (h : w0 = w.alloc o1) : w0.heap[w.heap.size]? = some o1 ∧ Below w.heap.size w w0 ∧ w0.heap.size = w.heap.size + 1 := by
  subst h
  exact ⟨heap_alloc_new _ _, (Below.refl _ w).alloc (Nat.le_refl _) _, by simp⟩
theorem two_alloc {w w0 : World} {o1 o2 : Obj} (h : w0 = (w.alloc o1).alloc o2) : w0.heap[w.heap.size]? = some o1 ∧ w0.heap[w.heap.size + 1]? = some o2 ∧ Below w.heap.size w w0 ∧ w0.heap.size = w.heap.size + 2 := by
  obtain ⟨a1, b1, s1⟩ := one_alloc (w := w) (o1 := o1) rfl
  obtain ⟨a2, b2, s2⟩ := one_alloc h
  rw [s1] at a2 s2
  exact ⟨blk_on a1 b2, a2, b1.trans (b2.mono (by omega)), by omega⟩
theorem three_alloc {w w0 : World} {o1 o2 o3 : Obj} (h : w0 = ((w.alloc o1).alloc o2).alloc o3) : w0.heap[w.heap.size]? = some o1 ∧ w0.heap[w.heap.size + 1]? = some o2 ∧ w0.heap[w.heap.size + 2]? = some o3 ∧ Below w.heap.size w w0 ∧ w0.heap.size = w.heap.size + 3 := by
  obtain ⟨a1, a2, b1, s1⟩ := two_alloc (w := w) (o1 := o1) (o2 := o2) rfl
  obtain ⟨a3, b2, s2⟩ := one_alloc h
  rw [s1] at a3 s2
  exact ⟨blk_on a1 b2, blk_on a2 b2, a3, b1.trans (b2.mono (by omega)), by omega⟩
theorem four_alloc' {w w0 : World} {o1 o2 o3 o4 : Obj} (h : w0 = (((w.alloc o1).alloc o2).alloc o3).alloc o4) : w0.heap[w.heap.size]? = some o1 ∧ w0.heap[w.heap.size + 1]? = some o2 ∧ w0.heap[w.heap.size + 2]? = some o3 ∧ w0.heap[w.heap.size + 3]? = some o4 ∧ Below w.heap.size w w0 ∧ w0.heap.size = w.heap.size + 4 := by
  obtain ⟨a1, a2, a3, b1, s1⟩ := three_alloc (w := w) (o1 := o1) (o2 := o2) (o3 := o3) rfl
  obtain ⟨a4, b2, s2⟩ := one_alloc h
  rw [s1] at a4 s2
  exact ⟨blk_on a1 b2, blk_on a2 b2, blk_on a3 b2, a4, b1.trans (b2.mono (by omega)), by omega⟩
theorem five_alloc {w w0 : World} {o1 o2 o3 o4 o5 : Obj} (h : w0 = ((((w.alloc o1).alloc o2).alloc o3).alloc o4).alloc o5) : w0.heap[w.heap.size]? = some o1 ∧ w0.heap[w.heap.size + 1]? = some o2 ∧ w0.heap[w.heap.size + 2]? = some o3 ∧ w0.heap[w.heap.size + 3]? = some o4 ∧ w0.heap[w.heap.size + 4]? = some o5 ∧ Below w.heap.size w w0 ∧ w0.heap.size = w.heap.size + 5 := by
  obtain ⟨a1, a2, a3, a4, b1, s1⟩ := four_alloc' (w := w) (o1 := o1) (o2 := o2) (o3 := o3) (o4 := o4) rfl
  obtain ⟨a5, b2, s2⟩ := one_alloc h
  rw [s1] at a5 s2
  exact ⟨blk_on a1 b2, blk_on a2 b2, blk_on a3 b2, blk_on a4 b2, a5, b1.trans (b2.mono (by omega)), by omega⟩
end Go.Proofs.Ytdiokmaomglefaa
/- The rest of a slice of bytes: s[i:]. -/
namespace Go.Proofs.Ytdiokmaomglefaa
open Go Go.RowKit

theorem bt_empty (w : World) (a : Option Addr) (cap : Nat) (h0 : a = none → cap = 0) (hm : cap ≤ maxLen) : Bt w (.slice a 0 cap) [] := ⟨a, cap, rfl, h0, by simp, hm, by simp, fun h => absurd rfl h⟩
theorem run_cut_none (w : World) : (Instr.sliceAt 24 (.slice none 0 0) (some (.int .i64 0)) none none).run Try.prog w = .ok (.slice none 0 0) w := by
  simp [Instr.sliceAt, go_sem, Try.underlying24, Result.andThen]
theorem run_cut_some (w : World) (x : Addr) (n cap i : Nat) (h1 : i ≤ n) (h2 : n ≤ cap) : (Instr.sliceAt 24 (.slice (some x) n cap) (some (.int .i64 i)) none none).run Try.prog w = .ok (.slice (if cap = i then some x else some (x.add i)) (n - i) (cap - i)) w := by
  have e1 : (i : Int) ≤ (n : Int) := by omega
  have e2 : (n : Int) ≤ (cap : Int) := by omega
  have e3 : (0 : Int) ≤ (i : Int) := by omega
  simp [Instr.sliceAt, go_sem, Try.underlying24, Result.andThen, e1]
/-- s[i:], s whatever reads as bytes. -/
theorem wpList_cut {ops : Array Oper} {rest : List Oper} {op : Oper} {a : Act} {w : World} {Q : Exit → Act → World → Prop} (hgd : op.guard = none) (x y : Operand) (ho : op.op = .slice 24 x (some y) none none)
    (v : Value) (l : List UInt8) (i : Nat) (hx : a.eval x = v) (hy : a.eval y = .int .i64 i) (hv : Bt w v l) (hi : i ≤ l.length)
    (h : ∀ v', Bt w v' (l.drop i) → wpList Try.prog ops Q rest (a.put op.dst v') w) : wpList Try.prog ops Q (op :: rest) a w := by
  refine wpList_plain hgd fun K hK => ?_
  have hb := hv
  obtain ⟨ao, cap, rfl, h0, h1, h2, h3, hc⟩ := hv
  cases ao with
  | none =>
    obtain rfl := h0 rfl
    have hl : l = [] := List.eq_nil_of_length_eq_zero (by omega)
    subst hl
    obtain rfl : i = 0 := by simpa using hi
    have hrun := run_cut_none w
    unfold Oper.wp
    unfold execOp
    have hx' : a.eval x = .slice none 0 0 := hx
    have hy' : a.eval y = .int .i64 0 := hy
    simp only [ho, Option.map_some, Option.map_none, hx', hy', Sem.run_bind, hrun, Result.andThen_ok, Sem.run_pure]
    exact hK _ _ (h (.slice none 0 0) (bt_nil w))
  | some ad =>
    have hrun := run_cut_some w ad l.length cap i hi h1
    unfold Oper.wp
    unfold execOp
    simp only [ho, Option.map_some, Option.map_none, hx, hy, Sem.run_bind, hrun, Result.andThen_ok, Sem.run_pure]
    refine hK _ _ (h _ ?_)
    by_cases hlt : i < l.length
    · obtain ⟨b, off, e, _⟩ := hc (by intro h; simp [h] at hlt)
      cases e
      rw [if_neg (by omega)]
      have := hb.part i (l.length - i) (cap - i) (by omega) (by omega) (by omega)
      rw [List.take_of_length_le (by simp)] at this
      rwa [show (⟨b, off, none⟩ : Addr).add i = ⟨b, off + i, none⟩ from Go.WideShapes.add_plain _ _ _]
    · have e : l.drop i = [] := by simp; omega
      rw [e, show l.length - i = 0 by omega]
      exact bt_empty w _ _ (by split <;> (intro h; cases h)) (by omega)
end Go.Proofs.Ytdiokmaomglefaa
/- Plain: the frames of a device, in order; frames one behind the other. No program in sight. -/
namespace Go.Proofs.Ytdiokmaomglefaa

/-- A frame that was found. -/
structure Fd where
  hd : Hd
  zone : Nat
  at_ : Nat
/-- Whether a frame comes ahead of another one. -/
def fdLt (a b : Fd) : Bool := decide (a.hd.seq < b.hd.seq ∨ a.hd.seq = b.hd.seq ∧ (a.zone < b.zone ∨ a.zone = b.zone ∧ a.at_ < b.at_))
def scanB (b : List UInt8) : List (Hd × Nat) := scanF (b.length + 1) b 0
def zoneFs (i : Nat) (z : Zn) : List Fd := if z.st = 4 then [] else (scanB z.data).map fun p => ⟨p.1, i, p.2⟩
def framesFrom : Nat → List Zn → List Fd
  | _, [] => []
  | i, z :: zs => zoneFs i z ++ framesFrom (i + 1) zs
def frames (zs : List Zn) : List Fd := framesFrom 0 zs
def nextOf (l : List Fd) : Int := l.foldl (fun n f => max n (f.hd.seq + 1)) 0

theorem readH_ok {b : List UInt8} {h : Hd} (e : readH b = some h) : 24 ≤ b.length ∧ hdOk h = true ∧ h = headOf b := by
  unfold readH at e
  split at e
  · cases e
  · split at e
    · cases e
    · unfold writeH at e
      by_cases hk : hdOk (headOf b) = true
      · simp only [hk, if_true] at e
        split at e
        · cases e
          exact ⟨by omega, hk, rfl⟩
        · cases e
      · simp [hk] at e
theorem hdOk_len {h : Hd} (e : hdOk h = true) : 1 ≤ h.len ∧ h.len ≤ 4096 ∧ 0 ≤ h.seq ∧ h.seq ≤ 4611686018427387903 := by
  unfold hdOk at e
  simp only [Bool.and_eq_true, decide_eq_true_eq] at e
  obtain ⟨⟨⟨⟨_, _⟩, h3⟩, h4⟩, _⟩ := e
  refine ⟨?_, ?_, h4.1, h4.2⟩
  · have := h3.1; split at this <;> omega
  · have := h3.2; split at this <;> omega
theorem sizeF_ok {h : Hd} (e : hdOk h = true) : sizeF h.len = h.len + 40 := by
  have := hdOk_len e
  unfold sizeF
  rw [if_pos ⟨this.1, this.2.1⟩]
theorem scanF_mem (k : Nat) (b : List UInt8) (at_ : Nat) (x : Hd × Nat) (h : x ∈ scanF k b at_) : readH (b.drop x.2) = some x.1 ∧ ¬ ((b.length - x.2 : Nat) : Int) < sizeF x.1.len := by
  induction k generalizing at_ with
  | zero => simp [scanF] at h
  | succ k ih =>
    unfold scanF at h
    cases hr : readH (b.drop at_) with
    | none => rw [hr] at h; simp at h
    | some hd =>
      rw [hr] at h
      simp only at h
      split at h
      · simp at h
      · rcases List.mem_cons.1 h with rfl | h
        · exact ⟨hr, ‹_›⟩
        · exact ih _ h
theorem zoneFs_mem {i : Nat} {z : Zn} {f : Fd} (h : f ∈ zoneFs i z) : f.zone = i ∧ z.st ≠ 4 ∧ readH (z.data.drop f.at_) = some f.hd ∧ f.at_ + 40 ≤ z.data.length ∧ (f.at_ : Int) + sizeF f.hd.len ≤ (z.data.length : Int) := by
  unfold zoneFs at h
  split at h
  · simp at h
  · obtain ⟨p, hp, rfl⟩ := List.mem_map.1 h
    obtain ⟨h1, h2⟩ := scanF_mem _ _ _ _ hp
    obtain ⟨h3, h4, _⟩ := readH_ok h1
    have h5 := hdOk_len h4
    have h6 := sizeF_ok h4
    rw [List.length_drop] at h3
    simp only at h1 h2 h3 h5 h6 ⊢
    exact ⟨trivial, ‹_›, h1, by omega, by omega⟩
theorem framesFrom_mem (zs : List Zn) (i : Nat) {f : Fd} (h : f ∈ framesFrom i zs) : ∃ j z, zs[j]? = some z ∧ f.zone = i + j ∧ f ∈ zoneFs (i + j) z := by
  induction zs generalizing i with
  | nil => simp [framesFrom] at h
  | cons z zs ih =>
    rcases List.mem_append.1 h with h | h
    · exact ⟨0, z, rfl, (zoneFs_mem h).1, h⟩
    · obtain ⟨j, z', h1, h2, h3⟩ := ih _ h
      have e : i + (j + 1) = i + 1 + j := by omega
      exact ⟨j + 1, z', h1, by omega, by rw [e]; exact h3⟩
theorem frames_mem {zs : List Zn} {f : Fd} (h : f ∈ frames zs) : ∃ z, zs[f.zone]? = some z ∧ z.st ≠ 4 ∧ readH (z.data.drop f.at_) = some f.hd ∧ f.at_ + 40 ≤ z.data.length ∧ (f.at_ : Int) + sizeF f.hd.len ≤ (z.data.length : Int) := by
  obtain ⟨j, z, h1, h2, h3⟩ := framesFrom_mem zs 0 h
  have h4 := zoneFs_mem h3
  refine ⟨z, ?_, h4.2⟩
  rw [h2, Nat.zero_add]
  exact h1
theorem frames_same {zs : List Zn} {f g : Fd} (hf : f ∈ frames zs) (hg : g ∈ frames zs) (h1 : fdLt f g = false) (h2 : fdLt g f = false) : f = g := by
  obtain ⟨z, a1, _, a2, _⟩ := frames_mem hf
  obtain ⟨y, b1, _, b2, _⟩ := frames_mem hg
  obtain ⟨fh, fz, fa⟩ := f
  obtain ⟨gh, gz, ga⟩ := g
  unfold fdLt at h1 h2
  simp only [decide_eq_false_iff_not] at h1 h2
  simp only at a1 a2 b1 b2
  obtain rfl : fz = gz := by omega
  obtain rfl : fa = ga := by omega
  rw [a1] at b1
  cases b1
  rw [a2] at b2
  cases b2
  rfl
/-- In order: none comes ahead of one that stands before it. -/
def InOrder (l : List Fd) : Prop := l.Pairwise fun a b => fdLt b a = false
theorem order_one {zs : List Zn} {a b : List Fd} (ha : a.Perm (frames zs)) (hb : b.Perm (frames zs)) (oa : InOrder a) (ob : InOrder b) : a = b := by
  refine List.Perm.eq_of_pairwise ?_ oa ob (ha.trans hb.symm)
  intro x y hx hy h1 h2
  exact frames_same (ha.mem_iff.1 hx) (hb.mem_iff.1 hy) h2 h1
theorem frames_len (zs : List Zn) (m : Nat) (hm : ∀ z ∈ zs, z.data.length ≤ m) : (frames zs).length ≤ zs.length * (m + 1) := by
  have hs : ∀ k b a, (scanF k b a).length ≤ k := by
    intro k
    induction k with
    | zero => intro b a; simp [scanF]
    | succ k ih =>
      intro b a
      unfold scanF
      split
      · simp
      · split
        · simp
        · have := ih b (a + (sizeF (‹Hd›).len).toNat)
          simp only [List.length_cons]
          omega
  have hg : ∀ i, (framesFrom i zs).length ≤ zs.length * (m + 1) := by
    clear hs
    induction zs with
    | nil => intro i; simp [framesFrom]
    | cons z zs ih =>
      intro i
      have h1 := ih (fun z h => hm z (List.mem_cons_of_mem _ h)) (i + 1)
      have h2 : (zoneFs i z).length ≤ m + 1 := by
        unfold zoneFs
        split
        · simp
        · rw [List.length_map]
          have h3 := hm z List.mem_cons_self
          have : ∀ k b a, (scanF k b a).length ≤ k := by
            intro k
            induction k with
            | zero => intro b a; simp [scanF]
            | succ k ih =>
              intro b a
              unfold scanF
              split
              · simp
              · split
                · simp
                · have := ih b (a + (sizeF (‹Hd›).len).toNat)
                  simp only [List.length_cons]
                  omega
          exact Nat.le_trans (this _ _ _) (by omega)
      simp only [framesFrom, List.length_append, List.length_cons]
      rw [Nat.add_mul]
      omega
  exact hg 0

/-- Bytes are frames, one behind the other, to their end. -/
def Til : Nat → List UInt8 → List (Hd × Nat) → Prop
  | _, b, [] => b = []
  | o, b, x :: l => x.2 = o ∧ ∃ f rest, b = f ++ rest ∧ readH f = some x.1 ∧ (f.length : Int) = sizeF x.1.len ∧ Til (o + f.length) rest l
theorem Til.nil (o : Nat) : Til o [] [] := rfl
theorem Til.cons (o : Nat) (f rest : List UInt8) (h : Hd) (l : List (Hd × Nat)) (hr : readH f = some h) (hl : (f.length : Int) = sizeF h.len) (ht : Til (o + f.length) rest l) : Til o (f ++ rest) ((h, o) :: l) := ⟨rfl, f, rest, rfl, hr, hl, ht⟩
theorem readH_append (f x : List UInt8) (h : 24 ≤ f.length) : readH (f ++ x) = readH f := by
  have hm : ∀ i n, i + n ≤ 24 → ((f ++ x).drop i).take n = (f.drop i).take n := by
    intro i n hi
    rw [List.drop_append_of_le_length (by omega), List.take_append_of_le_length (by rw [List.length_drop]; omega)]
  have hh : headOf (f ++ x) = headOf f := by
    unfold headOf
    rw [hm 1 1 (by omega), hm 4 4 (by omega), hm 2 2 (by omega), hm 8 8 (by omega), hm 16 4 (by omega)]
  unfold readH
  rw [hh, hm 8 8 (by omega), List.take_append_of_le_length h]
  have h1 : ¬ (f ++ x).length < 24 := by rw [List.length_append]; omega
  have h2 : ¬ f.length < 24 := by omega
  rw [if_neg h1, if_neg h2]
theorem Til.snoc {o : Nat} {b : List UInt8} {l : List (Hd × Nat)} (t : Til o b l) {f : List UInt8} {h : Hd} (hr : readH f = some h) (hl : (f.length : Int) = sizeF h.len) : Til o (b ++ f) (l ++ [(h, o + b.length)]) := by
  induction l generalizing o b with
  | nil =>
    obtain rfl : b = [] := t
    simpa using Til.cons o f [] h [] hr hl (Til.nil _)
  | cons x l ih =>
    obtain ⟨h', o'⟩ := x
    obtain ⟨he, g, rest, rfl, hr', hl', ht⟩ := t
    simp only at he hr' hl'
    subst he
    rw [List.append_assoc, List.length_append, ← Nat.add_assoc]
    exact Til.cons o' g (rest ++ f) h' _ hr' hl' (ih ht)
theorem Til.scan {o : Nat} {b : List UInt8} {l : List (Hd × Nat)} (t : Til o b l) (pre : List UInt8) (hp : pre.length = o) (k : Nat) (hk : b.length < k) : scanF k (pre ++ b) o = l := by
  induction l generalizing o b pre k with
  | nil =>
    obtain rfl : b = [] := t
    obtain ⟨k, rfl⟩ : ∃ j, k = j + 1 := ⟨k - 1, by omega⟩
    unfold scanF
    have : readH ((pre ++ []).drop o) = none := by
      rw [List.append_nil, List.drop_of_length_le (by omega)]
      rfl
    rw [this]
  | cons x l ih =>
    obtain ⟨h, o'⟩ := x
    obtain ⟨he, f, rest, rfl, hr, hl, ht⟩ := t
    simp only at he hr hl
    subst he
    obtain ⟨k, rfl⟩ : ∃ j, k = j + 1 := ⟨k - 1, by omega⟩
    obtain ⟨h1, h2, _⟩ := readH_ok hr
    have h3 : readH ((pre ++ (f ++ rest)).drop o') = some h := by
      rw [← hp, List.drop_left, readH_append _ _ h1, hr]
    unfold scanF
    rw [h3]
    simp only
    rw [if_neg (by simp only [List.length_append]; omega)]
    have h4 : o' + (sizeF h.len).toNat = o' + f.length := by omega
    have h5 := ih ht (pre ++ f) (by rw [List.length_append]; omega) k (by rw [List.length_append] at hk; omega)
    rw [h4, ← List.append_assoc, h5]
theorem Til.scanB {b : List UInt8} {l : List (Hd × Nat)} (t : Til 0 b l) : scanB b = l := t.scan [] rfl _ (Nat.lt_succ_self _)

theorem mid_of (a b c : List UInt8) (i n : Nat) (hi : a.length = i) (hn : b.length = n) : ((a ++ (b ++ c)).drop i).take n = b := by
  subst hi; subst hn
  rw [List.drop_left, List.take_left]
theorem writeH_len {h : Hd} {b : List UInt8} (e : writeH h = some b) : b.length = 24 := by
  unfold writeH at e
  split at e
  · cases e
    simp [hdBytes, le_length]
  · cases e
theorem read_write {h : Hd} {b : List UInt8} (e : writeH h = some b) (x : List UInt8) : readH (b ++ x) = some h := by
  rw [readH_append _ _ (by rw [writeH_len e]; omega)]
  have hl := writeH_len e
  have e' := e
  unfold writeH at e
  split at e
  · rename_i hk
    have hk' := hk
    unfold hdOk at hk
    simp only [Bool.and_eq_true, decide_eq_true_eq] at hk
    obtain ⟨⟨⟨⟨h1, h2⟩, h3⟩, h4⟩, h5⟩ := hk
    have hl2 := hdOk_len hk'
    have hlba : 0 ≤ h.lba ∧ h.lba ≤ 63 := by
      refine ⟨h2.1, ?_⟩
      have := h2.2
      split at this <;> omega
    have eb := (Option.some.inj e).symm
    generalize hA : le (adler (hdBytes h)) 4 = A at eb
    have L81 := le_length 81 1
    have Lk := le_length h.kind.toNat 1
    have Ll := le_length h.len.toNat 2
    have Lb := le_length h.lba.toNat 4
    have Ls := le_length h.seq.toNat 8
    have Le := le_length h.epoch.toNat 4
    have Gk := leg_le h.kind.toNat 1 (by omega)
    have Gl := leg_le h.len.toNat 2 (by omega)
    have Gb := leg_le h.lba.toNat 4 (by omega)
    have Gs := leg_le h.seq.toNat 8 (by omega)
    have Ge := leg_le h.epoch.toNat 4 (by omega)
    have eb2 : b = le 81 1 ++ (le h.kind.toNat 1 ++ (le h.len.toNat 2 ++ (le h.lba.toNat 4 ++ (le h.seq.toNat 8 ++ (le h.epoch.toNat 4 ++ A))))) := by
      rw [eb]
      simp only [hdBytes, List.append_assoc]
    have m1 : (b.drop 1).take 1 = le h.kind.toNat 1 := by
      rw [eb2]
      exact mid_of _ _ _ 1 1 L81 Lk
    have m2 : (b.drop 2).take 2 = le h.len.toNat 2 := by
      rw [eb2, ← List.append_assoc]
      exact mid_of _ _ _ 2 2 (by rw [List.length_append]; omega) Ll
    have m4 : (b.drop 4).take 4 = le h.lba.toNat 4 := by
      rw [eb2, ← List.append_assoc, ← List.append_assoc]
      exact mid_of _ _ _ 4 4 (by simp only [List.length_append]; omega) Lb
    have m8 : (b.drop 8).take 8 = le h.seq.toNat 8 := by
      rw [eb2, ← List.append_assoc, ← List.append_assoc, ← List.append_assoc]
      exact mid_of _ _ _ 8 8 (by simp only [List.length_append]; omega) Ls
    have m16 : (b.drop 16).take 4 = le h.epoch.toNat 4 := by
      rw [eb2, ← List.append_assoc, ← List.append_assoc, ← List.append_assoc, ← List.append_assoc]
      exact mid_of _ _ _ 16 4 (by simp only [List.length_append]; omega) Le
    have hh : headOf b = h := by
      unfold headOf
      rw [m1, m2, m4, m8, m16, Gk, Gl, Gb, Gs, Ge]
      obtain ⟨k, b', l', s, e'⟩ := h
      simp only [Hd.mk.injEq]
      simp only at h1 h4 h5 hl2 hlba
      exact ⟨by omega, by omega, by omega, by omega, by omega⟩
    unfold readH
    rw [hh, m8, Gs, e', if_neg (by omega), if_neg (by omega)]
    simp only
    rw [if_pos (by rw [List.take_of_length_le (by omega)])]
  · cases e
end Go.Proofs.Ytdiokmaomglefaa
