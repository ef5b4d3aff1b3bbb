/- What a law's walk is told of a slice that came in, and what is read off it. -/
import Derived.Test.YtkllljgnpcmojaaBase
import Derived.OpenShut
import Derived.ProofKit
namespace Go.Proofs.Ytkllljgnpcmojaa
open Go Go.RowKit

def IsRow (k : IntKind) (w : World) (a : Option Addr) (len cap : Nat) (zs : List Int) : Prop :=
  (a = none ∧ len = 0 ∧ cap = 0 ∧ zs = []) ∨
  ∃ x, a = some x ∧ len ≤ cap ∧ cap ≤ maxLen ∧ zs.length = cap ∧ (∀ i, i < zs.length → w.cell? (x.add i) = some (.int k (zs.getD i 0))) ∧ ∀ n ∈ zs, (Lit.int k n).wf = true

theorem row_bs {w : World} {a : Option Addr} {len cap : Nat} {zs : List Int} (h : IsRow .u8 w a len cap zs) (hl : len ≤ 140737488355328) : ∃ l : List UInt8, l.length = len ∧ Bs w (.slice a len cap) l := by
  rcases h with ⟨rfl, rfl, rfl, rfl⟩ | ⟨x, rfl, h1, h2, h3, h4, h5⟩
  · exact ⟨[], rfl, none, 0, rfl, fun _ => rfl, by simp, fun h => absurd rfl h⟩
  · by_cases h0 : len = 0
    · subst h0
      exact ⟨[], rfl, some x, cap, rfl, (fun h => by cases h), by simp, fun h => absurd rfl h⟩
    · obtain ⟨b, off, rfl, hc⟩ := ints_at h4 (by omega)
      refine ⟨(zs.take len).map fun n => UInt8.ofNat n.toNat, by simp; omega, some ⟨b, off, none⟩, cap, ?_, (fun h => by cases h), by simp; omega, fun _ => ⟨b, off, rfl, ?_, fun j hj => ?_⟩⟩
      · congr 1
        simp; omega
      · have := hc 0 (by omega)
        exact World.block_lt_of_cell? w _ this
      · have hj' : j < zs.length := by simp at hj; omega
        have hjl : j < len := by simp at hj; omega
        rw [hc j hj']
        have hw := h5 (zs[j]) (List.getElem_mem hj')
        have hb := bounds_u8 hw
        congr 1
        simp [hj', hjl]
        omega
theorem bs_nil (w : World) : Bs w (.slice none 0 0) [] := ⟨none, 0, rfl, fun _ => rfl, by simp, fun h => absurd rfl h⟩

theorem digit_is (c v : Int) (b : Bool) (w : World) (hv' : hv c = v) (hb' : isd c = b) :
    Calls Try.prog 34 #[.int .i32 c] w fun e w' => e = .returned (.tuple #[.int .i64 v, .bool b]) ∧ Below w.heap.size w w' := by
  subst hv'; subst hb'; exact digit_any c w

theorem bs_cell {w : World} {a : Option Addr} {n cap : Nat} {l : List UInt8} (h : Bs w (.slice a n cap) l) (k : Nat) (hk : k < l.length) :
    ∃ b off, a = some ⟨b, off, none⟩ ∧ b < w.heap.size ∧ w.cell? ⟨b, off + k, none⟩ = some (.int .u8 (l[k].toNat)) := by
  obtain ⟨a', cap', e, _, _, hc⟩ := h
  cases e
  obtain ⟨b, off, ha, hb, hcell⟩ := hc (by intro h; simp [h] at hk)
  refine ⟨b, off, ha, hb, ?_⟩
  rw [hcell k hk, List.getElem?_eq_getElem hk]; rfl
/-- append(v, src...) onto a row of the call's own, src whatever reads as bytes, under a guard or not. -/
theorem wpList_append_bs {P : Program} (w : World) {ops : Array Oper} {rest : List Oper} {o : Oper} {a : Act} {Q : Exit → Act → World → Prop} (hw : Region.wanted o (yielded ops a.tmps) = true) (s x : Operand) (t : TypeId)
    (ho : o.op = .call { callee := .builtin .append, args := #[s, x], argTypes := #[t, t] })
    (base : Nat) (e : TypeId) (i : TypeInfo) (z : Value) (ht : P.underlying t = some (.slice e)) (hi : P.info? e = some i) (hz : i.zero = some z)
    (hsize : i.size = 1) (hby : i.bytes = 1) (hzs : z.cells.size = 1)
    (v : Value) (n : Nat) (xs : List Value) (hs : a.eval s = v) (hown : w.ownsRow base e 1 v n xs)
    (src : Value) (l : List UInt8) (hx : a.eval x = src) (hsrc : Bs w src l)
    (hbytes : n + l.length ≤ 140737488355328) (hbase : base ≤ w.heap.size)
    (h : ∀ v' w', w'.ownsRow base e 1 v' (n + l.length) (xs ++ l.map bv) → w.grownBy w' v.ownBlock → wpList P ops Q rest (a.put o.dst v') w') : wpList P ops Q (o :: rest) a w := by
  refine wpList_step fun K hK => ?_
  rw [if_pos hw]
  obtain ⟨ao, cap, rfl, h0, hl, hc⟩ := hsrc
  cases ao with
  | none =>
    obtain rfl : cap = 0 := h0 rfl
    have hl0 : l = [] := by
      cases l with
      | nil => rfl
      | cons y l => obtain ⟨b, off, e, _⟩ := hc (by simp); cases e
    subst hl0
    have hrun := run_append_owned_none (P := P) (w := w) base t o.type e i 1 ht hi v n xs hown
    unfold Oper.wp
    simp only [List.length_nil] at hx
    simp [execOp, ho, resolve, invoke, builtin, hs, hx, hrun, Result.andThen]
    exact hK _ _ (h v w (by simpa using hown) (World.grownBy.refl _ _))
  | some ad =>
    refine wp_append_own w s x t ho base e i z 1 1 ht hi hz hsize hby hzs (by decide) v n xs hs hown ad l.length cap (l.map bv) hx (by simp) ?_ ?_ (by unfold maxLen; omega) (by omega) hbase (fun v' w' h2 h3 _ => hK _ _ (h v' w' h2 h3))
    · intro j u hj
      have hjl : j < l.length := by
        rcases Nat.lt_or_ge j l.length with h | h
        · exact h
        · simp [List.getElem?_eq_none (show (l.map bv).length ≤ j by simpa using h)] at hj
      obtain ⟨b, off, e, hb, hcell⟩ := hc (by intro h; simp [h] at hjl)
      obtain rfl := Option.some.inj e
      rw [show (⟨b, off, none⟩ : Addr).add j = ⟨b, off + j, none⟩ from Go.WideShapes.add_plain _ _ _, hcell j hjl, ← hj]
      simp [hjl, bv]
    · intro u hu
      simp only [List.mem_map] at hu
      obtain ⟨x, _, rfl⟩ := hu
      rfl

/-- The same as a step of a drawn region. -/
theorem step_append_bs {P : Program} {w : World} {ops : Array Oper} {o : Oper} {a : Act} {Q : Exit → Act → World → Prop} {K : Act → World → Prop} (hw : Region.wanted o (yielded ops a.tmps) = true) (s x : Operand) (t : TypeId)
    (ho : o.op = .call { callee := .builtin .append, args := #[s, x], argTypes := #[t, t] })
    (base : Nat) (e : TypeId) (i : TypeInfo) (z : Value) (ht : P.underlying t = some (.slice e)) (hi : P.info? e = some i) (hz : i.zero = some z)
    (hsize : i.size = 1) (hby : i.bytes = 1) (hzs : z.cells.size = 1)
    (v : Value) (n : Nat) (xs : List Value) (hs : a.eval s = v) (hown : w.ownsRow base e 1 v n xs)
    (src : Value) (l : List UInt8) (hx : a.eval x = src) (hsrc : Bs w src l)
    (hbytes : n + l.length ≤ 140737488355328) (hbase : base ≤ w.heap.size)
    (h : ∀ v' w', w'.ownsRow base e 1 v' (n + l.length) (xs ++ l.map bv) → w.grownBy w' v.ownBlock → K (a.put o.dst v') w') :
    if Region.wanted o (yielded ops a.tmps) then o.wp P a w K Q else K (a.put o.dst undef) w := by
  rw [if_pos hw]
  obtain ⟨ao, cap, rfl, h0, hl, hc⟩ := hsrc
  cases ao with
  | none =>
    obtain rfl : cap = 0 := h0 rfl
    have hl0 : l = [] := by
      cases l with
      | nil => rfl
      | cons y l => obtain ⟨b, off, e, _⟩ := hc (by simp); cases e
    subst hl0
    have hrun := run_append_owned_none (P := P) (w := w) base t o.type e i 1 ht hi v n xs hown
    unfold Oper.wp
    simp only [List.length_nil] at hx
    simp [execOp, ho, resolve, invoke, builtin, hs, hx, hrun, Result.andThen]
    exact h v w (by simpa using hown) (World.grownBy.refl _ _)
  | some ad =>
    refine wp_append_own w s x t ho base e i z 1 1 ht hi hz hsize hby hzs (by decide) v n xs hs hown ad l.length cap (l.map bv) hx (by simp) ?_ ?_ (by unfold maxLen; omega) (by omega) hbase (fun v' w' h2 h3 _ => h v' w' h2 h3)
    · intro j u hj
      have hjl : j < l.length := by
        rcases Nat.lt_or_ge j l.length with h | h
        · exact h
        · simp [List.getElem?_eq_none (show (l.map bv).length ≤ j by simpa using h)] at hj
      obtain ⟨b, off, e, hb, hcell⟩ := hc (by intro h; simp [h] at hjl)
      obtain rfl := Option.some.inj e
      rw [show (⟨b, off, none⟩ : Addr).add j = ⟨b, off + j, none⟩ from Go.WideShapes.add_plain _ _ _, hcell j hjl, ← hj]
      simp [hjl, bv]
    · intro u hu
      simp only [List.mem_map] at hu
      obtain ⟨x, _, rfl⟩ := hu
      rfl
/-- The step from one world to the next, below a world that is held. -/
theorem below_next {w1 w w' : World} (hb : Below w.heap.size w w') (h : Below w1.heap.size w1 w) : Below w1.heap.size w1 w' := h.trans (hb.mono h.size)
theorem below_grown {w1 w w' : World} {e : TypeId} {v : Value} {n : Nat} {xs : List Value} (hg : w.grownBy w' v.ownBlock) (hown : w.ownsRow w1.heap.size e 1 v n xs) (h : Below w1.heap.size w1 w) : Below w1.heap.size w1 w' :=
  h.grown hg h.size (fun k hk => (hown.lt k hk).1)
theorem empty_row {w1 w : World} (h : w1.heap.size ≤ w.heap.size) (e : TypeId) : (w.alloc (.cells #[] e)).ownsRow w1.heap.size e 1 (.slice (some ⟨w.heap.size, 0, none⟩) 0 0) 0 [] :=
  World.ownsRow_lit w #[] 0 h (by unfold maxLen; omega) rfl
theorem step_append_held {P : Program} {w : World} (w1 : World) {ops : Array Oper} {o : Oper} {a : Act} {Q : Exit → Act → World → Prop} {K : Act → World → Prop} (hw : Region.wanted o (yielded ops a.tmps) = true) (s x : Operand) (t : TypeId)
    (ho : o.op = .call { callee := .builtin .append, args := #[s, x], argTypes := #[t, t] })
    (e : TypeId) (i : TypeInfo) (z : Value) (ht : P.underlying t = some (.slice e)) (hi : P.info? e = some i) (hz : i.zero = some z)
    (hsize : i.size = 1) (hby : i.bytes = 1) (hzs : z.cells.size = 1)
    (v : Value) (n : Nat) (xs : List Value) (hs : a.eval s = v) (src : Value) (l : List UInt8) (hx : a.eval x = src)
    (hH : Below w1.heap.size w1 w) (hown : w.ownsRow w1.heap.size e 1 v n xs) (hsrc : Bs w1 src l)
    (hbytes : n + l.length ≤ 140737488355328)
    (h : ∀ v' w', w'.ownsRow w1.heap.size e 1 v' (n + l.length) (xs ++ l.map bv) → Below w1.heap.size w1 w' → K (a.put o.dst v') w') :
    if Region.wanted o (yielded ops a.tmps) then o.wp P a w K Q else K (a.put o.dst undef) w :=
  step_append_bs hw s x t ho w1.heap.size e i z ht hi hz hsize hby hzs v n xs hs hown src l hx (hsrc.below hH) hbytes hH.size
    fun v' w' h1 h2 => h v' w' h1 (below_grown h2 hown hH)
end Go.Proofs.Ytkllljgnpcmojaa
