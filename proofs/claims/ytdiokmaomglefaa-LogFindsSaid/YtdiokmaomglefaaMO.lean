import Derived.RangeFuncNested
import Derived.RangeFuncBound
import Derived.RangeFuncCalls
import Derived.RangeFuncLeaves
import Derived.Shelf.Abstract
import Derived.Shelf.RegionOpen
import Derived.WalkKit
import Derived.OwnWalkIn
import Derived.TacticsInMore
import Derived.LoopNIn
import Derived.LoopIn
import Derived.Below
import Derived.Test.YtdiokmaomglefaaMR
import Derived.Test.YtdiokmaomglefaaGBlock
import Derived.Test.YtdiokmaomglefaaMA
import Derived.Deep.MidRow
/- A range over a function whose body leaves in its first round by a break: the iterator need not end by itself. -/
namespace Go.Proofs.Ytdiokmaomglefaa
open Go Go.RowKit Go.Shelf

/-- What a round owes, and what lies behind it. -/
theorem wpIn_rangeFunc_once {F : Fence} {n : Nat} {P : Program} {α : Type} {g : Operand} {ps : Array Tmp} {assign body : Code} {Q : Exit → Act → World → Prop} {a : Act} {w : World}
    (hro : F.round = none) (h1 : 1 ≤ n) {gf : Nat} {lb : Array Value} (hg : a.eval g = .func (.func gf) #[] lb) (hFg : F.fn gf) (eg : ∀ args w, (callFunc gf args).run P w = .ok (.enter gf args) w)
    {encs : α → Array Value}
    (hseq : ∀ (l : Nat) (Jx : World → Prop) (W : World), Below w.heap.size w W → (∀ x W1, Below W.heap.size W W1 → YieldAt F (n - 1 - 1) P l (encs x) W1 fun e W' => e = .returned (.bool false) ∧ Jx W') →
      CallsIn F (n - 1) P gf (#[.func (.yield l) #[] #[]] ++ lb) W fun e W' => (∃ v, e = .returned v) ∧ Jx W')
    (hps : ∀ x, (encs x).size = ps.size) (id : Nat) (Ix : World → Prop)
    (hround : ∀ (x : α) (W1 : World), Below w.heap.size w W1 → w.heap.size + 1 < W1.heap.size →
      assign.wpIn (F.inRound (w.heap.size + 1)) (n - 1 - 1) P (Exit.then (fun a1 Wa => Wa.heap[w.heap.size + 1]? = W1.heap[w.heap.size + 1]? ∧ Wa.heap[w.heap.size]? = W1.heap[w.heap.size]? ∧
        ∀ o, body.wpIn (F.inRound (w.heap.size + 1)) (n - 1 - 1) P (fun e _ W3 => e = .exit id ∧ W3.heap[w.heap.size + 1]? = (Wa.putObj (w.heap.size + 1) o).heap[w.heap.size + 1]? ∧ W3.heap[w.heap.size]? = (Wa.putObj (w.heap.size + 1) o).heap[w.heap.size]? ∧ Ix W3) a1 (Wa.putObj (w.heap.size + 1) o)) (fun _ _ _ => False))
        { tmps := (ps.zip (encs x)).foldl (fun t (p, v) => t.setIfInBounds p v) a.tmps, defers := [] } W1)
    (hstop : ∀ (W3 : World) (o1 o2 : Obj), Ix W3 → ((W3.putObj (w.heap.size + 1) o1).putObj (w.heap.size + 1) o2).heap[w.heap.size]? = some (.deferred (some [])) →
      (Code.exit id).wpIn F n P Q { a with defers := { target := .collected w.heap.size, args := #[] } :: a.defers } ((W3.putObj (w.heap.size + 1) o1).putObj (w.heap.size + 1) o2)) :
    (Code.rangeFunc g ps assign body).wpIn F n P Q a w := by
  refine wpIn_rangeFunc ?_
  intro fn hfn
  rw [hro]
  obtain ⟨rec, hrec⟩ : ∃ rec : LoopState → Option Code → Loop, rec = fun st pe => { state := st, pending := pe, fn, tmps := a.tmps, params := ps, assign, body, defers := w.heap.size } := ⟨_, rfl⟩
  obtain ⟨W1, hW1⟩ : ∃ W1, (w.alloc (.deferred (some []))).alloc (.loop (rec .ready none)) = W1 := ⟨_, rfl⟩
  have hL1 : W1.heap[w.heap.size + 1]? = some (.loop (rec .ready none)) := by
    rw [← hW1]; have := World.alloc_heap_new (w.alloc (.deferred (some []))) (.loop (rec .ready none)); rwa [World.size_alloc] at this
  have hK1 : W1.heap[w.heap.size]? = some (.deferred (some [])) := by
    rw [← hW1]; exact (Below.heap_alloc _ _ _ (by simp)).trans (World.alloc_heap_new w _)
  have hb1 : Below w.heap.size w W1 := by
    rw [← hW1]; exact ((Below.refl _ w).alloc (Nat.le_refl _) _).alloc (by simp) _
  have hsz1 : W1.heap.size = w.heap.size + 2 := by rw [← hW1]; simp
  refine ⟨w.heap.size + 1, [{ target := .collected w.heap.size, args := #[] }], W1, { target := .fn (.func gf) lb, args := #[.func (.yield (w.heap.size + 1)) #[] #[]] }, W1, gf,
    #[.func (.yield (w.heap.size + 1)) #[] #[]] ++ lb, W1, ?_, ?_, ?_, ?_, fun _ => h1, ?_⟩
  · rw [← hW1, hrec]; exact run_enterLoop_outer _ _ _ _ _
  · simp only [resolve, hg]
    simp [go_sem]
  · intro f' hf'; simp [Target.leads] at hf'; subst hf'; exact hFg
  · simp [invoke, go_sem, eg]
  · refine (hseq (w.heap.size + 1) (fun W' => ∃ W3, Ix W3 ∧ W3.heap[w.heap.size]? = some (.deferred (some [])) ∧ w.heap.size + 1 < W3.heap.size ∧ W' = W3.putObj (w.heap.size + 1) (.loop (rec .done (some (.exit id))))) W1 hb1 ?_).mono ?_
    · intro x W hW
      have hl : W.heap[w.heap.size + 1]? = some (.loop (rec .ready none)) := (hW.block _ (by omega)).trans hL1
      have hk : W.heap[w.heap.size]? = some (.deferred (some [])) := (hW.block _ (by omega)).trans hK1
      have hsW : w.heap.size + 1 < W.heap.size := by have := hW.size; omega
      have hy := run_yield (P := P) (args := encs x) hl (by rw [hrec]; exact hps x)
      rw [hrec] at hy
      refine ⟨fn, _, assign, body, hy, roundIn_of_wpIn hfn (wpIn_mono (hround x W (hb1.trans (hW.mono (by omega))) hsW) ?_)⟩
      intro e a1 Wa hp
      cases e with
      | normal =>
        obtain ⟨hla, hka, hbody⟩ := hp
        rw [hl] at hla
        rw [hk] at hka
        have hla2 := (Array.getElem?_eq_some_iff.1 hla).1
        refine ⟨_, run_beginRound hla (by rw [hrec]), wpIn_mono (hbody _) ?_⟩
        rintro e3 a3 W3 ⟨rfl, hl3, hk3, hI⟩
        rw [World.putObj_heap_same hla2] at hl3
        rw [World.putObj_heap_other (by omega), hka] at hk3
        have hr := run_endRound (P := P) (some (.exit id)) hl3
        refine ⟨_, _, hr, ⟨rfl, W3, hI, hk3, (Array.getElem?_eq_some_iff.1 hl3).1, ?_⟩⟩
        rw [hrec]
        rfl
      | _ => exact hp.elim
    · rintro e W2 ⟨⟨v, rfl⟩, W3, hI, hk3, hl3, rfl⟩
      have hl : (W3.putObj (w.heap.size + 1) (.loop (rec .done (some (.exit id))))).heap[w.heap.size + 1]? = some (.loop (rec .done (some (.exit id)))) := World.putObj_heap_same hl3
      have hend := run_endLoop (P := P) hl (by rw [hrec]; simp)
      refine ⟨some (.exit id), _, by rw [hrec] at hend ⊢; exact hend, hstop W3 _ _ hI ?_⟩
      exact (World.putObj_heap_other (by omega)).trans ((World.putObj_heap_other (by omega)).trans hk3)
end Go.Proofs.Ytdiokmaomglefaa
/- A drawn region in a round: by the walk of a region that stands in no round. -/
namespace Go.Proofs.Ytdiokmaomglefaa
open Go Go.RowKit Go.Shelf

theorem oper_in_round {P : Program} {o : Oper} {a : Act} {w : World} {K : Act → World → Prop} {Q : Exit → Act → World → Prop} (l n : Nat) (hd : ∀ c, o.op ≠ .defer c) (h : o.wp P a w K Q) : o.wpIn (Fence.wide.inRound l) n P a w K Q := by
  refine ⟨fun _ _ => trivial, ?_⟩
  rw [Oper.semAt_plain (Fence.wide.inRound l) _ _ hd]
  unfold Oper.wp at h
  cases hr : (execOp a.eval o).run P w with
  | ok nx w' =>
    rw [hr] at h
    cases nx with
    | value v => exact h
    | skip => exact h
    | defer d => exact h
    | enter f args => exact ⟨fun e => (by cases e), CallsIn.inRound l (callsIn_wide.2 h)⟩
    | row r args => exact ⟨fun e => (by cases e), fun c cs _ => let ⟨v, w2, r2, s⟩ := h c cs; ⟨v, w2, r2, stepsIn_wide.2 s⟩⟩
    | _ => exact h.elim
  | halt x w' =>
    rw [hr] at h
    cases x with
    | panic v => exact h
    | _ => exact h.elim
/-- The region ends, and nothing else. -/
def Ends (Q : Exit → Act → World → Prop) : Exit → Act → World → Prop
  | .normal, a, w => Q .normal a w
  | _, _, _ => False
theorem Ends.normal {Q : Exit → Act → World → Prop} {a : Act} {w : World} (h : Q .normal a w) : Ends Q .normal a w := h
theorem Ends.imp {Q : Exit → Act → World → Prop} : ∀ (e : Exit) (a : Act) (w : World), Ends Q e a w → Q e a w := fun e a w h => by
  cases e <;> first | exact h | exact (h : False).elim
def noDefer (ops : Array Oper) : Bool := ops.all fun o => match o.op with
  | .defer _ => false
  | _ => true
theorem any_in_round {P : Program} {ops : Array Oper} {Q : Exit → Act → World → Prop} {md : Region.Mode} (l n : Nat) (hd : noDefer ops = true) :
    ∀ (fuel : Nat) (listed : Array Bool) (a : Act) (w : World), wpAny P md ops (Ends Q) fuel listed a w → wpAnyIn (Fence.wide.inRound l) n P md ops (Ends Q) fuel listed a w
  | 0, _, _, _, h => h
  | k + 1, listed, a, w, h => by
    refine ⟨h.1, fun i hi => ?_⟩
    have h2 := h.2 i hi
    unfold wpOp at h2
    unfold wpOpIn
    cases ho : ops[i]? with
    | none =>
      rw [ho] at h2
      exact any_in_round l n hd k _ _ _ h2
    | some o =>
      rw [ho] at h2
      have hod : ∀ c, o.op ≠ .defer c := by
        intro c hc
        obtain ⟨hlt, e⟩ := Array.getElem?_eq_some_iff.1 ho
        have := Array.all_eq_true.1 hd i hlt
        rw [e, hc] at this
        cases this
      show if Region.wanted o (yielded ops a.tmps) = true then _ else _
      dsimp only at h2
      split
      · rename_i hw
        rw [if_pos hw] at h2
        rcases h2 with h2 | ⟨_, a', w', h3⟩
        · exact Oper.wpIn_mono (fun b v hb => any_in_round l n hd k _ b v hb) (oper_in_round l n hod h2)
        · exact h3.elim
      · rename_i hw
        rw [if_neg hw] at h2
        exact ⟨fun _ _ => trivial, any_in_round l n hd k _ _ _ h2⟩
theorem wpIn_region_till {P : Program} {ls : List Oper} {Q : Exit → Act → World → Prop} {T : World → Prop} {id : Nat} {a : Act} {w : World} (l n : Nat) (c : Nat) (hm : P.follows .mixedOrders = true) (hd : noDefer ls.toArray = true) (hT : T w.drew)
    (h : Till c T (Array.replicate ls.toArray.size false) w.drew → wpTill P .any ls.toArray (Ends Q) c T ls.toArray.size (Array.replicate ls.toArray.size false) a w.drew) : (Code.region id ls.toArray true).wpIn (Fence.wide.inRound l) n P Q a w :=
  wpIn_mono (wpIn_region_any hm (any_in_round l n hd _ _ _ _ (wpAny_of_till _ _ _ _ (h fun _ => hT)))) Ends.imp
end Go.Proofs.Ytdiokmaomglefaa
/- stream.blocks: the iterator of key blocks; its first round. -/
namespace Go.Proofs.Ytdiokmaomglefaa
open Go Go.RowKit Go.Shelf
attribute [local go_sem] Oper.semAt_some

theorem wpListIn_load_at {F : Fence} {n : Nat} {P : Program} {ops : Array Oper} {rest : List Oper} {o : Oper} {a : Act} {w : World} {Q : Exit → Act → World → Prop} (hgd : o.guard = none) (ty : TypeId) (x : Operand) (ho : o.op = .load ty x)
    (b off : Nat) (hx : a.eval x = .pointer (some ⟨b, off, none⟩)) (cs : List Value) (d : TypeDesc) (hc : w.rangeAt b off cs)
    (hu : P.underlying ty = some d) (hd : d.isRow = true) (hi : (P.info? ty).map (·.size) = some cs.length)
    (h : wpListIn F n P ops Q rest (a.put o.dst (.agg cs.toArray)) w) : wpListIn F n P ops Q (o :: rest) a w := by
  refine wpListIn_plain hgd fun K hK => ?_
  unfold Oper.wpIn
  refine ⟨?_, ?_⟩
  · simp [Oper.about, ho]
  · rw [Oper.semAt_plain F _ _ (by rw [ho]; intro c hc'; cases hc')]
    have hr := run_loadAt_mid (P := P) w b off ty cs d hc hu hd hi
    simp [execOp, ho, hx, hr, Result.andThen]
    exact hK _ _ h
theorem wpListIn_lay {F : Fence} {n : Nat} {P : Program} {ops : Array Oper} {rest : List Oper} {o : Oper} {a : Act} {w : World} {Q : Exit → Act → World → Prop} (hgd : o.guard = none) (ty : TypeId) (x y : Operand) (ho : o.op = .store ty x y)
    (g : Nat) (cs : Array Value) (hx : a.eval x = .pointer (some ⟨g, 0, none⟩)) (hy : a.eval y = .agg cs)
    (t : TypeId) (old : Array Value) (hg : w.heap[g]? = some (.cells old t (0, 0))) (k : Nat) (hi : (P.info? ty).map (·.size) = some k) (hn : cs.size = k)
    (hold : old.size = k) (h1 : cs.all (·.oneCell') = true)
    (h : ∀ w2, Laid w g cs t w2 → wpListIn F n P ops Q rest (a.put o.dst undef) w2) : wpListIn F n P ops Q (o :: rest) a w := by
  have hr := run_storeVar_row (P := P) w g t ty old cs hg (by rw [hn]; exact hi) (hold.trans hn.symm) h1
  have hL : Laid w g cs t (w.setRow g cs) := ⟨setRow_heap _ _ _ _ _ _ hg, below_setRow (Below.refl _ _) (Nat.le_refl _) _, by simp [World.setRow], fun k hk => setRow_other _ _ _ _ hk⟩
  refine wpListIn_plain hgd fun K hK => ?_
  unfold Oper.wpIn
  refine ⟨?_, ?_⟩
  · simp [Oper.about, ho]
  · rw [Oper.semAt_plain F _ _ (by rw [ho]; intro c hc'; cases hc')]
    simp only [execOp, ho, hx, hy, Instr.storeAt, Instr.sureAddr, Sem.run_bind, Sem.run_pure, Result.andThen_ok, hr]
    exact hK _ _ (h _ hL)
abbrev B64 := { l : List UInt8 // l.length = 64 }
def encB (x : B64) : Array Value := #[.agg (x.1.map bv).toArray]
set_option linter.unusedSimpArgs false in
set_option maxRecDepth 100000 in
set_option maxHeartbeats 2000000 in
theorem blocks1_once (n : Nat) (hn : 1 ≤ n) (kb cb nb : Nat) (K N : List UInt8) (hK : K.length = 32) (hN : N.length = 12) (c : Int) (w : World)
    (g1 : w.heap[kb]? = some (.cells (K.map bv).toArray 55 (0, 0))) (g2 : w.heap[cb]? = some (.cells #[.int .u32 c] 119 (0, 0))) (g3 : w.heap[nb]? = some (.cells (N.map bv).toArray 83 (0, 0)))
    (l : Nat) (Jx : World → Prop) (W : World) (hb : Below w.heap.size w W)
    (hY : ∀ x W1, Below W.heap.size W W1 → YieldAt Fence.wide (n - 1) Try.prog l (encB x) W1 fun e W' => e = .returned (.bool false) ∧ Jx W') :
    CallsIn Fence.wide n Try.prog 96 #[.func (.yield l) #[] #[], .pointer (some ⟨kb, 0, none⟩), .pointer (some ⟨cb, 0, none⟩), .pointer (some ⟨nb, 0, none⟩)] W fun e W' => (∃ v, e = .returned v) ∧ Jx W' := by
  have G1 := blk_on g1 hb
  have G2 := blk_on g2 hb
  have G3 := blk_on g3 hb
  have hc2 := cell_of_block G2 0
  have hi32 : (Try.prog.info? 55).map (·.size) = some (K.map bv).length := by rw [List.length_map, hK]; kernel_rfl
  have hi12 : (Try.prog.info? 83).map (·.size) = some (N.map bv).length := by rw [List.length_map, hN]; kernel_rfl
  refine callsIn_of_wp Try.func96 rfl trivial ?_ rfl
  simp only [Try.ntmps96, List.size_toArray, List.length_cons, List.length_nil, Nat.reduceAdd, Nat.reduceSub, Array.replicate_succ, Array.replicate_zero, List.push_toArray, List.append_toArray, List.nil_append, List.cons_append]
  have r1 := range_of_block G1
  have r3 := range_of_block G3
  have hc2' : W.cell? ⟨cb, 0, none⟩ = some (.int .u32 c) := hc2
  clear hc2
  gi_wp2
  gi_loopw [5] (fun _ wr => wr = W) (fun _ _ => 0)
  case atStart => rfl
  case round =>
    obtain rfl := hrel
    gi_wp2_with (first
      | refine wpListIn_load_at rfl 55 (.tmp 1) rfl kb 0 rfl (K.map bv) _ r1 Try.underlying55 rfl hi32 ?_
      | refine wpListIn_load_at rfl 83 (.tmp 3) rfl nb 0 rfl (N.map bv) _ r3 Try.underlying83 rfl hi12 ?_)
    refine ⟨trivial, callsIn_wide.2 ((block_any K N hK hN c wr).mono ?_)⟩
    rintro e w2 ⟨⟨y, hy, rfl⟩, hb2⟩
    obtain ⟨fn, tmps, assign, body, hyd, hR⟩ := hY ⟨y, hy⟩ w2 hb2
    dsimp only [encB] at hyd
    gi_wp2
    refine hR.mono ?_
    rintro e W3 ⟨rfl, hJ⟩
    gi_wp2
    go_end0
    exact ⟨⟨_, rfl⟩, hJ⟩
theorem blocks_any (K N : List UInt8) (c : Int) (w : World) :
    Calls Try.prog 83 #[.agg (K.map bv).toArray, .int .u32 c, .agg (N.map bv).toArray] w fun e w' => e = .returned (.func (.func 96) #[] #[.pointer (some ⟨w.heap.size, 0, none⟩), .pointer (some ⟨w.heap.size + 1, 0, none⟩), .pointer (some ⟨w.heap.size + 2, 0, none⟩)]) ∧ w' = ((w.alloc (.cells (K.map bv).toArray 55)).alloc (.cells #[.int .u32 c] 119)).alloc (.cells (N.map bv).toArray 83) := by
  go_enter Try.func83, Try.ntmps83
  go_wp2
  go_ret
  exact ⟨rfl, rfl⟩
end Go.Proofs.Ytdiokmaomglefaa
