/- Blocks of a call's own that are known whole; results that lie in such blocks; what the next draw is. -/
import Derived.Test.YtkllljgnpcmojaaNext0
namespace Go.Proofs.Ytkllljgnpcmojaa
open Go Go.RowKit

theorem below_setRow {B : Nat} {a w : World} (h : Below B a w) {g : Nat} (hg : B ≤ g) (cs : Array Value) : Below B a (w.setRow g cs) :=
  h.trans ⟨rfl, rfl, rfl, by simp, fun k hk => setRow_other w g k cs (by omega)⟩
/-- Three blocks, and what follows. -/
theorem three_blocks {w w2 : World} {A Z Y : Obj} (hb : Below (((w.alloc A).alloc Z).alloc Y).heap.size (((w.alloc A).alloc Z).alloc Y) w2) :
    w2.heap[w.heap.size]? = some A ∧ w2.heap[w.heap.size + 1]? = some Z ∧ w2.heap[w.heap.size + 1 + 1]? = some Y ∧ Below w.heap.size w w2 ∧ w.heap.size + 3 ≤ w2.heap.size := by
  have hs := hb.size
  simp only [World.size_alloc] at hs
  refine ⟨?_, ?_, ?_, ?_, by omega⟩
  · rw [hb.block _ (by simp; omega), Below.heap_alloc _ _ _ (by simp; omega), Below.heap_alloc _ _ _ (by simp), heap_alloc_new]
  · rw [hb.block _ (by simp), Below.heap_alloc _ _ _ (by simp)]
    have := heap_alloc_new (w.alloc A) Z
    simpa using this
  · rw [hb.block _ (by simp)]
    have := heap_alloc_new ((w.alloc A).alloc Z) Y
    simpa using this
  · exact ((((Below.refl _ w).alloc (Nat.le_refl _) _).alloc (by simp) _).alloc (by simp; omega) _).trans (hb.mono (by simp; omega))
/-- Two cells out of a block that is known whole. -/
theorem cell_of_block {w : World} {g : Nat} {cs : Array Value} {t : TypeId} {fr : Nat × Nat} (h : w.heap[g]? = some (.cells cs t fr)) (j : Nat) : w.cell? ⟨g, j, none⟩ = cs[j]? := cell_of_row w g j cs t fr h
theorem range_of_block {w : World} {g : Nat} {cs : List Value} {t : TypeId} {fr : Nat × Nat} (h : w.heap[g]? = some (.cells cs.toArray t fr)) : w.rangeAt g 0 cs := fun j v hj => by
  rw [Nat.zero_add, cell_of_block h]; simpa using hj
theorem block_lt {w : World} {g : Nat} {o : Obj} (h : w.heap[g]? = some o) : g < w.heap.size := (Array.getElem?_eq_some_iff.1 h).1
/-- Three results: two in blocks that are known whole, one in a slot. -/
theorem results_cct {P : Program} {fn : Func} {p q u : Tmp} {t1 t2 : TypeId} (h : fn.results = #[.cell p t1, .cell q t2, .tmp u]) (tmps : Array Value) (w : World) (g1 g2 : Nat) (e1 e2 : TypeId) (c1 c2 : Array Value) (d1 d2 : TypeDesc)
    (hp : tmps.getD p undef = .pointer (some ⟨g1, 0, none⟩)) (hq : tmps.getD q undef = .pointer (some ⟨g2, 0, none⟩)) (h1 : w.heap[g1]? = some (.cells c1 e1 (0, 0))) (h2 : w.heap[g2]? = some (.cells c2 e2 (0, 0)))
    (hu1 : P.underlying t1 = some d1) (hd1 : (match d1 with | .struct _ | .array _ _ => true | _ => false) = true) (hi1 : (P.info? t1).map (·.size) = some c1.size)
    (hu2 : P.underlying t2 = some d2) (hd2 : (match d2 with | .struct _ | .array _ _ => true | _ => false) = true) (hi2 : (P.info? t2).map (·.size) = some c2.size) :
    (results fn tmps).run P w = .ok (.tuple #[.agg c1, .agg c2, tmps.getD u undef]) w := by
  have hp' : tmps[p]?.getD undef = .pointer (some ⟨g1, 0, none⟩) := by simpa using hp
  have hq' : tmps[q]?.getD undef = .pointer (some ⟨g2, 0, none⟩) := by simpa using hq
  simp [results, h, hp', hq', asAddr, run_loadVar_row w g1 e1 t1 c1 (0, 0) d1 h1 hu1 hd1 hi1, run_loadVar_row w g2 e2 t2 c2 (0, 0) d2 h2 hu2 hd2 hi2]
theorem info_src : (Try.prog.info? 24).map (·.size) = some 2 := by kernel_rfl

/-- Block B of w' holds o, and below it w' is as w was. -/
structure Kept (w : World) (B : Nat) (o : Obj) (w' : World) : Prop where
  blk : w'.heap[B]? = some o
  bel : Below B w w'
theorem Kept.drew {w w' : World} {B : Nat} {o : Obj} (h : Kept w B o w') : Kept w B o w'.drew := ⟨h.blk, h.bel.drew⟩
theorem Kept.setRow {w w' : World} {B : Nat} {o : Obj} (h : Kept w B o w') {g : Nat} (hg : B < g) (cs : Array Value) : Kept w B o (w'.setRow g cs) :=
  ⟨(setRow_other w' g B cs (by omega)).trans h.blk, below_setRow h.bel (by omega) cs⟩
theorem Kept.next {w w1 w' : World} {B : Nat} {o : Obj} (h : Kept w B o w1) (hb : Below w1.heap.size w1 w') : Kept w B o w' :=
  ⟨(hb.block _ (block_lt h.blk)).trans h.blk, h.bel.trans (hb.mono (Nat.le_of_lt (block_lt h.blk)))⟩
theorem Kept.cell {w w' : World} {B : Nat} {cs : Array Value} {t : TypeId} {fr : Nat × Nat} (h : Kept w B (.cells cs t fr) w') (j : Nat) : w'.cell? ⟨B, j, none⟩ = cs[j]? := cell_of_block h.blk j

theorem src_one (a : Option Addr) (n cap : Nat) (u : Int) : (#[Value.slice a n cap, .int .i64 u] : Array Value).all (·.oneCell') = true := by simp [Value.oneCell']
theorem clean_is (k : Key) (c : Bool) (h : (k == k0) = c) (w : World) : Calls Try.prog 21 #[.agg (kc k).toArray] w fun e w' => e = .returned (.bool c) ∧ Below w.heap.size w w' := by subst h; exact clean_any k w
theorem keyhas_is (a : Option Addr) (n cap : Nat) (l : List Key) (k : Key) (c : Bool) (hc : decide (k ∈ l) = c) (w : World) (h : Ks w (.slice a n cap) l) :
    Calls Try.prog 26 #[.slice a n cap, .agg (kc k).toArray] w fun e w' => e = .returned (.bool c) ∧ Below w.heap.size w w' := by subst hc; exact keyhas_any a n cap l k w h
/-- A load of a whole key in a plain region, under a guard or not. -/
theorem wpList_load_at {P : Program} {ops : Array Oper} {rest : List Oper} {op : Oper} {a : Act} {w : World} {Q : Exit → Act → World → Prop} (hw : Region.wanted op (yielded ops a.tmps) = true) (ty : TypeId) (x : Operand) (ho : op.op = .load ty x)
    (b o : Nat) (hx : a.eval x = .pointer (some ⟨b, o, none⟩)) (cs : List Value) (d : TypeDesc) (hc : w.rangeAt b o cs)
    (hu : P.underlying ty = some d) (hd : d.isRow = true) (hi : (P.info? ty).map (·.size) = some cs.length)
    (h : wpList P ops Q rest (a.put op.dst (.agg cs.toArray)) w) : wpList P ops Q (op :: rest) a w := by
  refine wpList_step fun K hK => ?_
  rw [if_pos hw]
  exact wp_load_mid ty x ho b o hx cs d hc hu hd hi (hK _ _ h)
/-- What a draw gives: the key, how many are taken behind it, the error's number. -/
def nx (l : List Key) (u : Int) : Key × Int × Int :=
  match l[un u l.length]? with
  | none => (k0, u, 80)
  | some k => if k = k0 ∨ k ∈ l.take (un u l.length) then (k0, u, 80) else (k, (un u l.length : Int) + 1, 0)
theorem nx_none {l : List Key} {u : Int} (h : un u l.length = l.length) : nx l u = (k0, u, 80) := by
  unfold nx; rw [h]; simp
theorem nx_bad {l : List Key} {u : Int} {k : Key} (h : l[un u l.length]? = some k) (hb : k = k0 ∨ k ∈ l.take (un u l.length)) : nx l u = (k0, u, 80) := by
  unfold nx; rw [h]; simp only; rw [if_pos hb]
theorem nx_good {l : List Key} {u : Int} {k : Key} (h : l[un u l.length]? = some k) (hb : ¬(k = k0 ∨ k ∈ l.take (un u l.length))) : nx l u = (k, (un u l.length : Int) + 1, 0) := by
  unfold nx; rw [h]; simp only; rw [if_neg hb]
end Go.Proofs.Ytkllljgnpcmojaa
