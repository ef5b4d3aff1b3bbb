/- Two rows of the call's own that grow side by side: heads, and places. -/
import Derived.Test.YtdiokmaomglefaaMZ
import Derived.Test.YtdiokmaomglefaaMA
import Derived.Test.YtdiokmaomglefaaGScan1
import Derived.Maps.AppendAt
namespace Go.Proofs.Ytdiokmaomglefaa
open Go Go.RowKit

theorem info_head : (Try.prog.info? 46).map (fun i => (i.zero, i.size, i.bytes)) = some (some (.agg #[.int .i64 0, .int .i64 0, .int .i64 0, .int .i64 0, .int .i64 0]), 5, 40) := by kernel_rfl
theorem info_int : (Try.prog.info? 3).map (fun i => (i.zero, i.size, i.bytes)) = some (some (.int .i64 0), 1, 8) := by kernel_rfl
def hcells (l : List (Hd × Nat)) : List Value := l.flatMap fun p => (hv p.1).toList
def pcells (l : List (Hd × Nat)) : List Value := l.map fun p => Value.int .i64 p.2
theorem hcells_len (l : List (Hd × Nat)) : (hcells l).length = l.length * 5 := by
  induction l with
  | nil => rfl
  | cons p l ih =>
    have : hcells (p :: l) = (hv p.1).toList ++ hcells l := rfl
    rw [this, List.length_append, ih]
    simp [hv]
    omega
theorem hcells_snoc (l : List (Hd × Nat)) (p : Hd × Nat) : hcells (l ++ [p]) = hcells l ++ (hv p.1).toList := by simp [hcells]
theorem pcells_snoc (l : List (Hd × Nat)) (p : Hd × Nat) : pcells (l ++ [p]) = pcells l ++ [Value.int .i64 p.2] := by simp [pcells]
/-- Two rows of the call's own, apart from each other. -/
structure Two (base : Nat) (vh : Value) (n : Nat) (ch : List Value) (vp : Value) (m : Nat) (cp : List Value) (w : World) : Prop where
  oh : w.ownsRow base 46 5 vh n ch
  op : w.ownsRow base 3 1 vp m cp
  apart : ∀ g, vh.ownBlock = some g → vp.ownBlock ≠ some g
  base : base ≤ w.heap.size
theorem Two.on {base n m : Nat} {vh vp : Value} {ch cp : List Value} {w w' : World} (h : Two base vh n ch vp m cp w) (hb : Below w.heap.size w w') : Two base vh n ch vp m cp w' :=
  ⟨owns_below h.oh hb, owns_below h.op hb, h.apart, Nat.le_trans h.base hb.size⟩
theorem owns_grown {base n sz : Nat} {v : Value} {e : TypeId} {xs : List Value} {w w' : World} {row : Option Nat} (h : w.ownsRow base e sz v n xs) (hg : w.grownBy w' row) (hne : ∀ g, v.ownBlock = some g → row ≠ some g) : w'.ownsRow base e sz v n xs := by
  refine ⟨h.1, ?_⟩
  rcases h.2 with h0 | ⟨g, cap, cur, rfl, hB, hh, hr⟩
  · exact Or.inl h0
  · exact Or.inr ⟨g, cap, cur, rfl, hB, (hg.block g (block_lt hh) (fun e => hne g rfl e.symm)).trans hh, hr⟩
theorem ownBlock_lt {base n sz : Nat} {v : Value} {e : TypeId} {xs : List Value} {w : World} (h : w.ownsRow base e sz v n xs) {g : Nat} (hg : v.ownBlock = some g) : base ≤ g ∧ g < w.heap.size := h.lt g hg
theorem Two.appH {base n m : Nat} {vh vp : Value} {ch cp : List Value} {w : World} (h : Two base vh n ch vp m cp w) (g : Nat) (hd : Hd) (hblk : ∀ j u, (hv hd).toList[j]? = some u → w.cell? ((⟨g, 0, none⟩ : Addr).add j) = some u) (hn : n + 1 ≤ 3000000000000) :
    ∃ v' w', (Builtin.append_ #[54, 54] 54 #[vh, .slice (some ⟨g, 0, none⟩) 1 1]).run Try.prog w = .ok v' w' ∧ Two base v' (n + 1) (ch ++ (hv hd).toList) vp m cp w' ∧ (∃ a c, v' = .slice a (n + 1) c) ∧ w.grownBy w' vh.ownBlock := by
  obtain ⟨i0, hi, hz0, hz1, hz2⟩ := info_parts info_head
  obtain ⟨v', w', hr, ho, hg, _, hl⟩ := run_append_own_at (P := Try.prog) w base 54 54 46 i0 _ 5 40 Try.underlying54 hi hz0 hz1 hz2 rfl (by decide) vh n ch h.oh ⟨g, 0, none⟩ 1 1 (hv hd).toList (by simp [hv]) hblk (by intro u hu; simp [hv] at hu; rcases hu with rfl | rfl | rfl | rfl | rfl <;> rfl) (by unfold maxLen; omega) (by omega) h.base
  refine ⟨v', w', hr, ⟨ho, owns_grown h.op hg (fun q hq e => h.apart q e hq), ?_, Nat.le_trans h.base hg.size⟩, ?_, hg⟩
  · intro q hq e
    rcases hl with e1 | e1
    · exact h.apart q (e1 ▸ hq) e
    · rw [e1] at hq
      have := (ownBlock_lt h.op e).2
      have := Option.some.inj hq
      omega
  · obtain ⟨a, c, e, _⟩ := own_rw ho
    exact ⟨a, c, e⟩
theorem Two.appP {base n m : Nat} {vh vp : Value} {ch cp : List Value} {w : World} (h : Two base vh n ch vp m cp w) (g : Nat) (i : Nat) (hblk : w.cell? ⟨g, 0, none⟩ = some (.int .i64 i)) (hn : m + 1 ≤ 3000000000000) :
    ∃ v' w', (Builtin.append_ #[74, 74] 74 #[vp, .slice (some ⟨g, 0, none⟩) 1 1]).run Try.prog w = .ok v' w' ∧ Two base vh n ch v' (m + 1) (cp ++ [.int .i64 i]) w' ∧ (∃ a c, v' = .slice a (m + 1) c) ∧ w.grownBy w' vp.ownBlock := by
  obtain ⟨i0, hi, hz0, hz1, hz2⟩ := info_parts info_int
  obtain ⟨v', w', hr, ho, hg, _, hl⟩ := run_append_own_at (P := Try.prog) w base 74 74 3 i0 _ 1 8 Try.underlying74 hi hz0 hz1 hz2 rfl (by decide) vp m cp h.op ⟨g, 0, none⟩ 1 1 [.int .i64 i] (by simp) (by
    intro j u hj
    match j, hj with
    | 0, hj =>
      simp at hj
      subst hj
      simpa [Addr.add] using hblk) (by intro u hu; simp at hu; subst hu; rfl) (by unfold maxLen; omega) (by omega) h.base
  refine ⟨v', w', hr, ⟨owns_grown h.oh hg (fun q hq e => h.apart q hq e), ho, ?_, Nat.le_trans h.base hg.size⟩, ?_, hg⟩
  · intro q hq e
    rcases hl with e1 | e1
    · exact h.apart q hq (e1 ▸ e)
    · rw [e1] at e
      have := (ownBlock_lt h.oh hq).2
      have := Option.some.inj e
      omega
  · obtain ⟨a, c, e, _⟩ := own_rw ho
    exact ⟨a, c, e⟩
/-- What a scan holds between two steps. -/
structure ScanAt (w : World) (b : Value) (i : Nat) (vh : Value) (n : Nat) (ch : List Value) (vp : Value) (m : Nat) (cp : List Value) (wr : World) : Prop where
  two : Two (w.heap.size + 2) vh n ch vp m cp wr
  bel : Below w.heap.size w wr
  box : wr.heap[w.heap.size]? = some (.cells #[b] 24 (0, 0))
  at_ : wr.heap[w.heap.size + 1]? = some (.cells #[.int .i64 i] 3 (0, 0))
theorem ScanAt.on {w wr w' : World} {b vh vp : Value} {i n m : Nat} {ch cp : List Value} (h : ScanAt w b i vh n ch vp m cp wr) (hb : Below wr.heap.size wr w') : ScanAt w b i vh n ch vp m cp w' :=
  ⟨h.two.on hb, h.bel.trans (hb.mono h.bel.size), blk_on h.box hb, blk_on h.at_ hb⟩
theorem ScanAt.appH {w wr : World} {b vh vp : Value} {i n m : Nat} {ch cp : List Value} (h : ScanAt w b i vh n ch vp m cp wr) (g : Nat) (hd : Hd) (hblk : ∀ j u, (hv hd).toList[j]? = some u → wr.cell? ((⟨g, 0, none⟩ : Addr).add j) = some u) (hn : n + 1 ≤ 3000000000000) :
    ∃ v' w', (Builtin.append_ #[54, 54] 54 #[vh, .slice (some ⟨g, 0, none⟩) 1 1]).run Try.prog wr = .ok v' w' ∧ ScanAt w b i v' (n + 1) (ch ++ (hv hd).toList) vp m cp w' ∧ (∃ a c, v' = .slice a (n + 1) c) ∧ wr.grownBy w' vh.ownBlock := by
  obtain ⟨v', w', hr, h2, hs, hg⟩ := h.two.appH g hd hblk hn
  have hq : ∀ q, vh.ownBlock = some q → w.heap.size + 2 ≤ q := fun q e => (h.two.oh.lt q e).1
  refine ⟨v', w', hr, ⟨h2, h.bel.grown hg h.bel.size (fun k e => by have := hq k e; omega), ?_, ?_⟩, hs, hg⟩
  · exact (hg.block _ (block_lt h.box) (fun e => by have := hq _ e.symm; omega)).trans h.box
  · exact (hg.block _ (block_lt h.at_) (fun e => by have := hq _ e.symm; omega)).trans h.at_
theorem ScanAt.appP {w wr : World} {b vh vp : Value} {i n m : Nat} {ch cp : List Value} (h : ScanAt w b i vh n ch vp m cp wr) (g p : Nat) (hblk : wr.cell? ⟨g, 0, none⟩ = some (.int .i64 p)) (hn : m + 1 ≤ 3000000000000) :
    ∃ v' w', (Builtin.append_ #[74, 74] 74 #[vp, .slice (some ⟨g, 0, none⟩) 1 1]).run Try.prog wr = .ok v' w' ∧ ScanAt w b i vh n ch v' (m + 1) (cp ++ [.int .i64 p]) w' ∧ (∃ a c, v' = .slice a (m + 1) c) ∧ wr.grownBy w' vp.ownBlock := by
  obtain ⟨v', w', hr, h2, hs, hg⟩ := h.two.appP g p hblk hn
  have hq : ∀ q, vp.ownBlock = some q → w.heap.size + 2 ≤ q := fun q e => (h.two.op.lt q e).1
  refine ⟨v', w', hr, ⟨h2, h.bel.grown hg h.bel.size (fun k e => by have := hq k e; omega), ?_, ?_⟩, hs, hg⟩
  · exact (hg.block _ (block_lt h.box) (fun e => by have := hq _ e.symm; omega)).trans h.box
  · exact (hg.block _ (block_lt h.at_) (fun e => by have := hq _ e.symm; omega)).trans h.at_
theorem ScanAt.set {w wr : World} {b vh vp : Value} {i n m : Nat} {ch cp : List Value} (h : ScanAt w b i vh n ch vp m cp wr) (j : Nat) : ScanAt w b j vh n ch vp m cp (wr.setCell ⟨w.heap.size + 1, 0, none⟩ (.int .i64 j)) := by
  have L := set_cell (j := 0) h.at_ (.int .i64 j)
  refine ⟨⟨own_on h.two.oh (fun k hk => L.rest k (by omega)), own_on h.two.op (fun k hk => L.rest k (by omega)), h.two.apart, by rw [L.size]; exact h.two.base⟩, h.bel.trans (L.bel.mono (by omega)), ?_, L.blk⟩
  exact (L.rest _ (by omega)).trans h.box
/-- One step: the end, or one frame more. -/
theorem scan_step (l : List UInt8) (i k : Nat) (hi : i ≤ l.length) (hk : l.length < i + k) :
    (stepF l i).2 = 0 ∧ scanF k l i = [] ∨ ∃ h s k', stepF l i = (h, ((s : Nat) : Int)) ∧ 0 < s ∧ k = k' + 1 ∧ scanF k l i = (h, i) :: scanF k' l (i + s) ∧ i + s ≤ l.length ∧ l.length < i + s + k' := by
  obtain ⟨k', rfl⟩ : ∃ k', k = k' + 1 := ⟨k - 1, by omega⟩
  unfold stepF
  cases hr : readH (l.drop i) with
  | none =>
    left
    refine ⟨rfl, ?_⟩
    unfold scanF
    rw [hr]
  | some h =>
    by_cases hlt : ((l.length - i : Nat) : Int) < sizeF h.len
    · left
      refine ⟨by simp only [if_pos hlt], ?_⟩
      unfold scanF
      rw [hr]
      simp only [if_pos hlt]
    · right
      obtain ⟨_, hok, _⟩ := readH_ok hr
      have hs := sizeF_ok hok
      have hl := hdOk_len hok
      refine ⟨h, (sizeF h.len).toNat, k', ?_, by omega, rfl, ?_, by omega, by omega⟩
      · simp only [if_neg hlt]
        rw [show (((sizeF h.len).toNat : Nat) : Int) = sizeF h.len by omega]
      · conv => lhs; unfold scanF
        rw [hr]
        simp only [if_neg hlt]
end Go.Proofs.Ytdiokmaomglefaa
