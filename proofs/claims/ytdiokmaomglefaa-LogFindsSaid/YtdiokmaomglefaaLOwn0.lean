/- Devices in memory of their own: what is touched and what is not; slices.Clone of zones. -/
import Derived.Test.YtdiokmaomglefaaLPlace
import Derived.WalkSpells
namespace Go.Proofs.Ytdiokmaomglefaa
open Go Go.RowKit

/-- Of what was there no blocks but these are touched. -/
structure Away (X : List Nat) (a w : World) : Prop where
  size : a.heap.size ≤ w.heap.size
  rest : ∀ k, k < a.heap.size → k ∉ X → w.heap[k]? = a.heap[k]?
theorem Away.refl (X : List Nat) (w : World) : Away X w w := ⟨Nat.le_refl _, fun _ _ _ => rfl⟩
theorem Away.trans {X : List Nat} {a b c : World} (h : Away X a b) (h2 : Away X b c) : Away X a c := ⟨Nat.le_trans h.size h2.size, fun k hk hx => (h2.rest k (Nat.lt_of_lt_of_le hk h.size) hx).trans (h.rest k hk hx)⟩
theorem Away.of_below {X : List Nat} {a w : World} (h : Below a.heap.size a w) : Away X a w := ⟨h.size, fun k hk _ => h.block k hk⟩
theorem Away.laid {X : List Nat} {w w2 : World} {g : Nat} {cs : Array Value} {t : TypeId} (h : Laid w g cs t w2) (hg : g ∈ X) : Away X w w2 := ⟨by rw [h.size]; exact Nat.le_refl _, fun k _ hx => h.rest k (fun e => hx (e ▸ hg))⟩
theorem Away.set {X : List Nat} (w : World) {g j : Nat} (u : Value) (hg : g ∈ X) : Away X w (w.setCell ⟨g, j, none⟩ u) := ⟨by simp, fun k _ hx => heap_setCell_other w ⟨g, j, none⟩ k u (fun e => hx (by simpa [e] using hg))⟩
theorem Away.more {X Y : List Nat} {a w : World} (h : Away X a w) (hs : ∀ x ∈ X, x ∈ Y) : Away Y a w := ⟨h.size, fun k hk hx => h.rest k hk (fun e => hx (hs k e))⟩
/-- Bytes that do not stand in any of these blocks. -/
def BtO (X : List Nat) (w : World) (v : Value) (l : List UInt8) : Prop := Bt w v l ∧ (l ≠ [] → ∀ b o n c, v = .slice (some ⟨b, o, none⟩) n c → b ∉ X)
theorem BtO.away {X : List Nat} {w w' : World} {v : Value} {l : List UInt8} (h : BtO X w v l) (ha : Away X w w') : BtO X w' v l := by
  refine ⟨?_, h.2⟩
  obtain ⟨⟨a, cap, hv, h0, h1, h2, hl, hc⟩, hx⟩ := h
  refine ⟨a, cap, hv, h0, h1, h2, hl, fun hne => ?_⟩
  obtain ⟨b, off, ha', hlt, hcell⟩ := hc hne
  have hb := hx hne b off l.length cap (by rw [hv, ha'])
  exact ⟨b, off, ha', Nat.lt_of_lt_of_le hlt ha.size, fun j hj => (World.cell?_of_block (a := ⟨b, off + j, none⟩) (ha.rest b hlt hb)).trans (hcell j hj)⟩
theorem BtO.of {X : List Nat} {w : World} {v : Value} {l : List UInt8} (h : Bt w v l) (hX : ∀ x ∈ X, w.heap.size ≤ x) : BtO X w v l := by
  refine ⟨h, fun hne b o n c hv hx => ?_⟩
  subst hv
  obtain ⟨a', cap', e, _, _, _, _, hc⟩ := h
  cases e
  obtain ⟨b', off', e, hlt, _⟩ := hc hne
  cases e
  have := hX b hx
  omega
theorem BtO.add {X Y : List Nat} {w : World} {v : Value} {l : List UInt8} (h : BtO Y w v l) (hX : ∀ x ∈ X, w.heap.size ≤ x ∨ x ∈ Y) : BtO X w v l := by
  refine ⟨h.1, fun hne b o n c hv hx => ?_⟩
  have h2 := h.2 hne b o n c hv
  subst hv
  obtain ⟨a', cap', e, _, _, _, _, hc⟩ := h.1
  cases e
  obtain ⟨b', off', e, hlt, _⟩ := hc hne
  cases e
  rcases hX b hx with h3 | h3
  · omega
  · exact h2 h3
theorem BtO.own {X : List Nat} {w : World} {B : Nat} {e : TypeId} {v : Value} {l : List UInt8} (h : w.ownsRow B e 1 v l.length (l.map bv)) (hl : l.length ≤ 140737488355328) (hX : ∀ x ∈ X, x < B) : BtO X w v l := by
  refine ⟨own_bt h hl, fun _ b o n c hv hx => ?_⟩
  subst hv
  have := (h.lt b rfl).1
  have := hX b hx
  omega
theorem BtO.nil (X : List Nat) (w : World) : BtO X w (.slice none 0 0) [] := ⟨bt_nil w, fun h => absurd rfl h⟩
theorem BtO.open {X : List Nat} {w : World} {v : Value} {l : List UInt8} (h : BtO X w v l) : ∃ a cap, v = .slice a l.length cap := h.1.open
/-- Zones that do not stand in any of these blocks. -/
def ZsO (X : List Nat) (w : World) (v : Value) (zs : List Zn) : Prop :=
  ∃ vs, (vs.length = zs.length ∧ ∀ (j : Nat) (z : Zn) (u : Value), zs[j]? = some z → vs[j]? = some u → BtO X w u z.data) ∧ Rw 3 w v zs.length (zcs zs vs) ∧ (zs ≠ [] → ∀ b o n c, v = .slice (some ⟨b, o, none⟩) n c → b ∉ X)
theorem ZsO.is {X : List Nat} {w : World} {v : Value} {zs : List Zn} (h : ZsO X w v zs) : Zs w v zs := by
  obtain ⟨vs, ⟨h1, h2⟩, h3, _⟩ := h
  exact ⟨vs, ⟨h1, fun j z u hz hu => (h2 j z u hz hu).1⟩, h3⟩
theorem ZsO.away {X : List Nat} {w w' : World} {v : Value} {zs : List Zn} (h : ZsO X w v zs) (ha : Away X w w') : ZsO X w' v zs := by
  obtain ⟨vs, ⟨h1, h2⟩, ⟨a, cap, hv, hl, h0, h4, h5, hc⟩, hx⟩ := h
  refine ⟨vs, ⟨h1, fun j z u hz hu => (h2 j z u hz hu).away ha⟩, ⟨a, cap, hv, hl, h0, h4, h5, fun hne => ?_⟩, hx⟩
  obtain ⟨b, off, ha', hlt, hcell⟩ := hc hne
  have hb := hx (by intro e; rw [e] at hne; exact hne rfl) b off zs.length cap (by rw [hv, ha'])
  exact ⟨b, off, ha', Nat.lt_of_lt_of_le hlt ha.size, fun j u hj => (World.cell?_of_block (a := ⟨b, off + j, none⟩) (ha.rest b hlt hb)).trans (hcell j u hj)⟩
theorem ZsO.of {X : List Nat} {w : World} {v : Value} {zs : List Zn} (h : Zs w v zs) (hX : ∀ x ∈ X, w.heap.size ≤ x) : ZsO X w v zs := by
  obtain ⟨vs, ⟨h1, h2⟩, h3⟩ := h
  refine ⟨vs, ⟨h1, fun j z u hz hu => BtO.of (h2 j z u hz hu) hX⟩, h3, fun hne b o n c hv hx => ?_⟩
  subst hv
  obtain ⟨a', cap', e, _, _, _, _, hc⟩ := h3
  cases e
  obtain ⟨b', off', e, hlt, _⟩ := hc (by intro h; exact hne (List.eq_nil_of_length_eq_zero h))
  cases e
  have := hX b hx
  omega
/-- A device that does not stand in any of these blocks. -/
def DvO (X : List Nat) (w : World) (cs : List Value) (d : Dv) : Prop := ∃ v r0 r1 f0 f1, cs = dcs d v r0 r1 f0 f1 ∧ ZsO X w v d.zs ∧ BtO X w r0 d.r0 ∧ BtO X w r1 d.r1 ∧ BtO X w f0 d.f0 ∧ BtO X w f1 d.f1
theorem DvO.is {X : List Nat} {w : World} {cs : List Value} {d : Dv} (h : DvO X w cs d) : DvIs w cs d := by
  obtain ⟨v, r0, r1, f0, f1, h0, h1, h2, h3, h4, h5⟩ := h
  exact ⟨v, r0, r1, f0, f1, h0, h1.is, h2.1, h3.1, h4.1, h5.1⟩
theorem DvO.away {X : List Nat} {w w' : World} {cs : List Value} {d : Dv} (h : DvO X w cs d) (ha : Away X w w') : DvO X w' cs d := by
  obtain ⟨v, r0, r1, f0, f1, h0, h1, h2, h3, h4, h5⟩ := h
  exact ⟨v, r0, r1, f0, f1, h0, h1.away ha, h2.away ha, h3.away ha, h4.away ha, h5.away ha⟩
theorem DvO.of {X : List Nat} {w : World} {cs : List Value} {d : Dv} (h : DvIs w cs d) (hX : ∀ x ∈ X, w.heap.size ≤ x) : DvO X w cs d := by
  obtain ⟨v, r0, r1, f0, f1, h0, h1, h2, h3, h4, h5⟩ := h
  exact ⟨v, r0, r1, f0, f1, h0, ZsO.of h1 hX, BtO.of h2 hX, BtO.of h3 hX, BtO.of h4 hX, BtO.of h5 hX⟩
/-- A device in memory of its own: block D its cells, block Z its zones. -/
structure OwnAt (base : Nat) (X : List Nat) (D Z cap : Nat) (vs : List Value) (r0 r1 f0 f1 : Value) (d : Dv) (w : World) : Prop where
  blk : w.heap[D]? = some (.cells (dcs d (.slice (some ⟨Z, 0, none⟩) d.zs.length cap) r0 r1 f0 f1).toArray 27 (0, 0))
  row : w.ownsRow base 52 3 (.slice (some ⟨Z, 0, none⟩) d.zs.length cap) d.zs.length (zcs d.zs vs)
  len : vs.length = d.zs.length
  dat : ∀ (j : Nat) (z : Zn) (u : Value), d.zs[j]? = some z → vs[j]? = some u → BtO X w u z.data
  b0 : BtO X w r0 d.r0
  b1 : BtO X w r1 d.r1
  b2 : BtO X w f0 d.f0
  b3 : BtO X w f1 d.f1
theorem OwnAt.below {base : Nat} {X : List Nat} {D Z cap : Nat} {vs : List Value} {r0 r1 f0 f1 : Value} {d : Dv} {w w' : World} (h : OwnAt base X D Z cap vs r0 r1 f0 f1 d w) (hb : Below w.heap.size w w') : OwnAt base X D Z cap vs r0 r1 f0 f1 d w' :=
  ⟨blk_on h.blk hb, owns_below h.row hb, h.len, fun j z u hz hu => (h.dat j z u hz hu).away (.of_below hb), h.b0.away (.of_below hb), h.b1.away (.of_below hb), h.b2.away (.of_below hb), h.b3.away (.of_below hb)⟩
theorem OwnAt.ne {base : Nat} {X : List Nat} {D Z cap : Nat} {vs : List Value} {r0 r1 f0 f1 : Value} {d : Dv} {w : World} (h : OwnAt base X D Z cap vs r0 r1 f0 f1 d w) : D ≠ Z := by
  rintro rfl
  obtain ⟨_, h0 | ⟨g, c, cur, e, _, hh, _⟩⟩ := h.row
  · cases h0.1
  · cases e
    rw [h.blk] at hh
    injection hh with hh
    injection hh with _ hh
    cases hh
/-- The cells of the device are laid anew. -/
theorem OwnAt.onD {base : Nat} {X : List Nat} {D Z cap : Nat} {vs : List Value} {r0 r1 f0 f1 : Value} {d : Dv} {w : World} (h : OwnAt base X D Z cap vs r0 r1 f0 f1 d w) (hX : D ∈ X) (q0 q1 g0 g1 : Value) (d' : Dv) (hz : d'.zs = d.zs) {cs : Array Value} {w2 : World} (L : Laid w D cs 27 w2)
    (hcs : cs = (dcs d' (.slice (some ⟨Z, 0, none⟩) d.zs.length cap) q0 q1 g0 g1).toArray) (c0 : BtO X w q0 d'.r0) (c1 : BtO X w q1 d'.r1) (c2 : BtO X w g0 d'.f0) (c3 : BtO X w g1 d'.f1) : OwnAt base X D Z cap vs q0 q1 g0 g1 d' w2 := by
  have ha := Away.laid L hX
  refine ⟨by rw [L.blk, hcs, hz], ?_, by rw [hz]; exact h.len, fun j z u hj hu => (h.dat j z u (by rw [← hz]; exact hj) hu).away ha, c0.away ha, c1.away ha, c2.away ha, c3.away ha⟩
  rw [hz]
  have hne := h.ne
  obtain ⟨h1, h0 | ⟨g, c, cur, e, hg, hh, r⟩⟩ := h.row
  · cases h0.1
  · cases e
    exact ⟨h1, Or.inr ⟨Z, cap, cur, rfl, hg, (L.rest Z (Ne.symm hne)).trans hh, r⟩⟩
/-- A cell of the zones' row is set, to what the zones are then. -/
theorem OwnAt.onZ {base : Nat} {X : List Nat} {D Z cap : Nat} {vs : List Value} {r0 r1 f0 f1 : Value} {d : Dv} {w : World} (h : OwnAt base X D Z cap vs r0 r1 f0 f1 d w) (hX : Z ∈ X) (vs' : List Value) (d' : Dv) (hd : dcs d' (.slice (some ⟨Z, 0, none⟩) d'.zs.length cap) r0 r1 f0 f1 = dcs d (.slice (some ⟨Z, 0, none⟩) d.zs.length cap) r0 r1 f0 f1) (hr : d'.r0 = d.r0 ∧ d'.r1 = d.r1 ∧ d'.f0 = d.f0 ∧ d'.f1 = d.f1) {w2 : World} (hl : d'.zs.length = d.zs.length) (hv : vs'.length = d'.zs.length)
    (hrow : w2.ownsRow base 52 3 (.slice (some ⟨Z, 0, none⟩) d.zs.length cap) d.zs.length (zcs d'.zs vs')) (hs : w2.heap.size = w.heap.size) (ho : ∀ k, k ≠ Z → w2.heap[k]? = w.heap[k]?)
    (hdat : ∀ (j : Nat) (z : Zn) (u : Value), d'.zs[j]? = some z → vs'[j]? = some u → BtO X w u z.data) : OwnAt base X D Z cap vs' r0 r1 f0 f1 d' w2 := by
  have ha : Away X w w2 := ⟨by omega, fun k _ hx => ho k (fun e => hx (e ▸ hX))⟩
  obtain ⟨e0, e1, e2, e3⟩ := hr
  refine ⟨?_, by rw [hl]; exact hrow, hv, fun j z u hj hu => (hdat j z u hj hu).away ha, ?_, ?_, ?_, ?_⟩
  · rw [ho D h.ne, h.blk, hd]
  · rw [e0]; exact h.b0.away ha
  · rw [e1]; exact h.b1.away ha
  · rw [e2]; exact h.b2.away ha
  · rw [e3]; exact h.b3.away ha
/-- What is left of it when other blocks are touched. -/
theorem OwnAt.out {base : Nat} {X Y : List Nat} {D Z cap : Nat} {vs : List Value} {r0 r1 f0 f1 : Value} {d : Dv} {w : World} (h : OwnAt base X D Z cap vs r0 r1 f0 f1 d w) (hY : ∀ y ∈ Y, y ∈ X) (hZ : Z ∉ Y) : DvO Y w (dcs d (.slice (some ⟨Z, 0, none⟩) d.zs.length cap) r0 r1 f0 f1) d := by
  have hm : ∀ {v l}, BtO X w v l → BtO Y w v l := fun hb => ⟨hb.1, fun hne b o n c hv hx => hb.2 hne b o n c hv (hY b hx)⟩
  refine ⟨_, _, _, _, _, rfl, ⟨vs, ⟨h.len, fun j z u hz hu => hm (h.dat j z u hz hu)⟩, own_rw h.row, ?_⟩, hm h.b0, hm h.b1, hm h.b2, hm h.b3⟩
  rintro _ b o n c e
  cases e
  exact hZ
theorem info_zone : (Try.prog.info? 52).map (fun i => (i.zero, i.size, i.bytes)) = some (some (.agg #[.int .i64 0, .slice none 0 0, .int .i64 0]), 3, 40) := by kernel_rfl
theorem zcs_one (zs : List Zn) (vs : List Value) (h : ∀ u ∈ vs, u.oneCell' = true) : ∀ u ∈ zcs zs vs, u.oneCell' = true := by
  induction zs generalizing vs with
  | nil => intro u hu; cases vs <;> simp [zcs] at hu
  | cons z zs ih =>
    cases vs with
    | nil => intro u hu; simp [zcs] at hu
    | cons v vs =>
      intro u hu
      simp only [zcs, List.mem_cons] at hu
      rcases hu with rfl | rfl | rfl | hu
      · rfl
      · exact h _ List.mem_cons_self
      · rfl
      · exact ih vs (fun u hu => h u (List.mem_cons_of_mem _ hu)) u hu
set_option linter.unusedSimpArgs false in
set_option maxRecDepth 100000 in
set_option maxHeartbeats 1000000 in
theorem zclone_any (ad : Addr) (n cap : Nat) (cs : List Value) (w : World) (h : Rw 3 w (.slice (some ad) n cap) n cs) (h1 : ∀ u ∈ cs, u.oneCell' = true) (hn : 0 < n) (hm : n ≤ 1000000) :
    Calls Try.prog 46 #[.slice (some ad) n cap] w fun e w' => (∃ v, e = .returned v ∧ w'.ownsRow w.heap.size 52 3 v n cs) ∧ Below w.heap.size w w' := by
  obtain ⟨i0, hi, hz0, hz1, hz2⟩ := info_parts info_zone
  have hl := h.len
  have hc : ∀ (o : Obj) (j : Nat) (u : Value), cs[j]? = some u → (w.alloc o).cell? (ad.add j) = some u := fun o j u hj => by
    obtain ⟨b, off, e, hlt, hr⟩ := (h.below ((Below.refl _ w).alloc (Nat.le_refl _) o)).where hn
    cases e
    rw [Go.WideShapes.add_plain]
    exact hr j u hj
  have HC := Lib.hid hc
  have HL := Lib.hid hl.2.1
  have hnil := fun w => Lib.run_eql_slice_nil (P := Try.prog) w 23 52 (some ad) n cap 0 0 Try.underlying23
  clear hc h hl
  go_enter Try.func46, Try.ntmps46
  go_wp2_with (at_builtin
               refine wpList_append_grows _ (by rfl) (.tmp 5) (.tmp 6) 23 rfl 52 i0 (.agg #[.int .i64 0, .slice none 0 0, .int .i64 0]) 3 40 Try.underlying23 hi hz0 hz1 hz2 rfl (by decide) _ 0 0 [] (by rfl) (fun h => by cases h) (by simp) (fun b hb j u hj => by simp at hj) ad n cap cs (by rfl) HL.out (HC.out _) h1 (by omega) (by unfold maxLen; omega) (by omega) ?_
               intro v5 w5 hown5 hg5)
  go_ret
  rw [Nat.zero_add, List.nil_append] at hown5
  exact ⟨⟨v5, rfl, owns_base hown5 (by simp)⟩, ((Below.refl _ w).alloc (Nat.le_refl _) _).grown hg5 (by simp) (fun k hk => by cases hk)⟩
end Go.Proofs.Ytdiokmaomglefaa
