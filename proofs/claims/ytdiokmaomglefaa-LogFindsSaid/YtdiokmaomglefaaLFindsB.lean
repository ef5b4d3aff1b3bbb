/- LogFinds' rounds: the device in its variable, and the row of what was appended. -/
import Derived.Test.YtdiokmaomglefaaLAwake
import Derived.Maps.AppendAt
namespace Go.Proofs.Ytdiokmaomglefaa
open Go Go.RowKit

/-- The goal is a list of operations that begins with this load (said by looking). -/
theorem wpl_at {P : Program} {ops : Array Oper} {rest : List Oper} {op : Oper} {a : Act} {w : World} {Q : Exit → Act → World → Prop} (ty : TypeId) (x : Operand) (_ho : op.op = .load ty x) (h : wpList P ops Q (op :: rest) a w) : wpList P ops Q (op :: rest) a w := h
/-- The goal is a list of operations that begins with this store (said by looking). -/
theorem wpl_to {P : Program} {ops : Array Oper} {rest : List Oper} {op : Oper} {a : Act} {w : World} {Q : Exit → Act → World → Prop} (ty : TypeId) (x y : Operand) (_ho : op.op = .store ty x y) (h : wpList P ops Q (op :: rest) a w) : wpList P ops Q (op :: rest) a w := h
/-- append(v, src...) onto a row of the call's own; where the row stands behind it. -/
theorem wpList_append_at {P : Program} (w : World) {ops : Array Oper} {rest : List Oper} {o : Oper} {a : Act} {Q : Exit → Act → World → Prop} (hw : Region.wanted o (yielded ops a.tmps) = true) (s x : Operand) (t : TypeId)
    (ho : o.op = .call { callee := .builtin .append, args := #[s, x], argTypes := #[t, t] })
    (base : Nat) (e : TypeId) (i : TypeInfo) (z : Value) (sz bytes : Nat) (ht : P.underlying t = some (.slice e)) (hi : P.info? e = some i) (hz : i.zero = some z)
    (hsize : i.size = sz) (hby : i.bytes = bytes) (hzs : z.cells.size = sz) (hsz : 0 < sz)
    (v : Value) (n : Nat) (xs : List Value) (hs : a.eval s = v) (hown : w.ownsRow base e sz v n xs)
    (g m c : Nat) (cs : List Value) (hx : a.eval x = .slice (some ⟨g, 0, none⟩) m c) (hcs : w.rangeAt g 0 cs) (hcl : cs.length = m * sz) (h1 : ∀ u ∈ cs, u.oneCell' = true)
    (hmax : n + m ≤ maxLen) (hbytes : (n + m) * bytes ≤ 140737488355328) (hbase : base ≤ w.heap.size)
    (h : ∀ v' w', w'.ownsRow base e sz v' (n + m) (xs ++ cs) → w.grownBy w' v.ownBlock → (v'.ownBlock = v.ownBlock ∨ v'.ownBlock = some w.heap.size) → wpList P ops Q rest (a.put o.dst v') w') : wpList P ops Q (o :: rest) a w := by
  refine wpList_step fun K hK => ?_
  rw [if_pos hw]
  obtain ⟨v', w', hr, h2, h3, _, h4⟩ := run_append_own_at (P := P) w base t o.type e i z sz bytes ht hi hz hsize hby hzs hsz v n xs hown ⟨g, 0, none⟩ m c cs hcl
    (fun j u hj => by rw [show (⟨g, 0, none⟩ : Addr).add j = ⟨g, 0 + j, none⟩ from Go.WideShapes.add_plain _ _ _]; exact hcs j u hj) h1 hmax hbytes hbase
  unfold Oper.wp execOp
  simp only [ho, resolve, invoke, builtin, Sem.run_bind, Sem.run_pure, Result.andThen_ok, List.map_toArray, List.map_cons, List.map_nil, hs, hx, hr]
  exact hK _ _ (h v' w' h2 h3 h4)
/-- At the head of a round: the device stands in block D, what was appended in a row of the call's own; the device has nothing in either. -/
structure FdAt (D : Nat) (d : Dv) (want : List Fd) (cs : List Value) (vo : Value) (w : World) : Prop where
  dev : DvO ([D] ++ vo.ownBlock.toList) w cs d
  blk : w.heap[D]? = some (.cells cs.toArray 27 (0, 0))
  own : w.ownsRow (D + 1) 48 7 vo want.length (fcells want)
theorem FdAt.below {D : Nat} {d : Dv} {want : List Fd} {cs : List Value} {vo : Value} {w w' : World} (h : FdAt D d want cs vo w) (hb : Below w.heap.size w w') : FdAt D d want cs vo w' :=
  ⟨h.dev.below hb, blk_on h.blk hb, owns_below h.own hb⟩
theorem FdAt.lt {D : Nat} {d : Dv} {want : List Fd} {cs : List Value} {vo : Value} {w : World} (h : FdAt D d want cs vo w) : ∀ y ∈ [D] ++ vo.ownBlock.toList, y < w.heap.size := by
  intro y hy
  rcases List.mem_append.1 hy with h1 | h1
  · simp at h1
    subst h1
    exact block_lt h.blk
  · cases hv : vo.ownBlock with
    | none => rw [hv] at h1; simp at h1
    | some g =>
      rw [hv] at h1
      simp at h1
      subst h1
      exact (h.own.lt y hv).2
theorem FdAt.next {D : Nat} {dl : Dv} {want : List Fd} {cs' : List Value} {vo v9 : Value} {w8 w9 w10 : World} {f : Fd}
    (hx : DvO ([D] ++ vo.ownBlock.toList) w8 cs' dl) (hown : w9.ownsRow (D + 1) 48 7 v9 (want.length + 1) (fcells want ++ encF f)) (hg : w8.grownBy w9 vo.ownBlock)
    (hl : v9.ownBlock = vo.ownBlock ∨ v9.ownBlock = some w8.heap.size) (L : Laid w9 D cs'.toArray 27 w10) : FdAt D dl (want ++ [f]) cs' v9 w10 := by
  refine ⟨?_, L.blk, ?_⟩
  · have h1 : DvO ([D] ++ vo.ownBlock.toList ++ [w8.heap.size]) w8 cs' dl := hx.add2 (fun x hx => by
      rcases List.mem_append.1 hx with h1 | h1
      · exact .inr h1
      · simp at h1
        exact .inl (by omega))
    have h2 : Away ([D] ++ vo.ownBlock.toList ++ [w8.heap.size]) w8 w9 := ⟨hg.size, fun k hk hne => hg.block k hk (fun e => hne (by rw [← e]; simp))⟩
    refine ((h1.away h2).away (Away.laid L (by simp))).less ?_
    intro y hy
    rcases List.mem_append.1 hy with h3 | h3
    · simp at h3
      subst h3
      simp
    · rcases hl with e | e
      · rw [e] at h3
        simp [h3]
      · rw [e] at h3
        simp at h3
        simp [h3]
  · rw [List.length_append, fcells_snoc]
    exact own_on hown (fun k hk => L.rest k (by omega))
theorem FdAt.bel {D : Nat} {d : Dv} {want : List Fd} {cs cs' : List Value} {vo : Value} {w3 w w8 w9 w10 : World} {t : TypeId} (h : FdAt D d want cs vo w) (h3 : Below D w3 w) (hb : Below w.heap.size w w8) (hg : w8.grownBy w9 vo.ownBlock) (L : Laid w9 D cs'.toArray t w10) : Below D w3 w10 := by
  have hD := block_lt h.blk
  have h8 : Below D w3 w8 := h3.trans (hb.mono (by omega))
  exact (h8.grown hg (by have := hb.size; omega) (fun k e => by have := (h.own.lt k e).1; omega)).trans L.bel
theorem FdAt.keep {D : Nat} {d : Dv} {want : List Fd} {cs : List Value} {vo : Value} {w w8 w9 : World} {q : Nat} {o : Obj} (h : FdAt D d want cs vo w) (hq : w.heap.size ≤ q) (hg : w8.grownBy w9 vo.ownBlock) (hb : w8.heap[q]? = some o) : w9.heap[q]? = some o :=
  (hg.block q (block_lt hb) (fun e => by have := (h.own.lt q e.symm).2; omega)).trans hb
end Go.Proofs.Ytdiokmaomglefaa
