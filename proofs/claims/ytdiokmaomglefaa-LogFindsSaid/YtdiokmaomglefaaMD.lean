import Derived.Test.YtdiokmaomglefaaMZ
import Derived.Test.YtdiokmaomglefaaMA
/- Devices: what reads as one; slices.IndexFunc, ContainsFunc over zones. -/
namespace Go.Proofs.Ytdiokmaomglefaa
open Go Go.RowKit

/-- The cells of zones, the slices of their bytes being these. -/
def zcs : List Zn → List Value → List Value
  | z :: zs, v :: vs => .int .i64 z.st :: v :: .int .i64 z.lasts :: zcs zs vs
  | _, _ => []
theorem zcs_len (zs : List Zn) (vs : List Value) (h : vs.length = zs.length) : (zcs zs vs).length = zs.length * 3 := by
  induction zs generalizing vs with
  | nil => cases vs <;> simp [zcs] at *
  | cons z zs ih =>
    cases vs with
    | nil => simp at h
    | cons v vs =>
      have := ih vs (by simpa using h)
      simp only [zcs, List.length_cons, this]
      omega
theorem zcs_at (zs : List Zn) (vs : List Value) (h : vs.length = zs.length) (j : Nat) (z : Zn) (v : Value) (hz : zs[j]? = some z) (hv : vs[j]? = some v) :
    (zcs zs vs)[j * 3]? = some (.int .i64 z.st) ∧ (zcs zs vs)[j * 3 + 1]? = some v ∧ (zcs zs vs)[j * 3 + 2]? = some (.int .i64 z.lasts) := by
  induction zs generalizing vs j with
  | nil => simp at hz
  | cons y zs ih =>
    cases vs with
    | nil => simp at hv
    | cons u vs =>
      cases j with
      | zero =>
        simp at hz hv
        subst hz; subst hv
        exact ⟨rfl, rfl, rfl⟩
      | succ j =>
        have := ih vs (by simpa using h) j (by simpa using hz) (by simpa using hv)
        have e : (j + 1) * 3 = j * 3 + 1 + 1 + 1 := by omega
        rw [e]
        simpa [zcs] using this
theorem zcs_set (zs : List Zn) (vs : List Value) (h : vs.length = zs.length) (j : Nat) (z : Zn) (v : Value) (hj : j < zs.length) :
    zcs (zs.set j z) (vs.set j v) = (((zcs zs vs).set (j * 3) (.int .i64 z.st)).set (j * 3 + 1) v).set (j * 3 + 2) (.int .i64 z.lasts) := by
  induction zs generalizing vs j with
  | nil => simp at hj
  | cons y zs ih =>
    cases vs with
    | nil => simp at h
    | cons u vs =>
      cases j with
      | zero => rfl
      | succ j =>
        have := ih vs (by simpa using h) j (by simpa using hj)
        have e : (j + 1) * 3 = j * 3 + 1 + 1 + 1 := by omega
        rw [e]
        simp only [List.set_cons_succ, zcs, this]
theorem zcs_setv (zs : List Zn) (vs : List Value) (h : vs.length = zs.length) (j : Nat) (v : Value) (hj : j < zs.length) : zcs zs (vs.set j v) = (zcs zs vs).set (j * 3 + 1) v := by
  induction zs generalizing vs j with
  | nil => simp at hj
  | cons y zs ih =>
    cases vs with
    | nil => simp at h
    | cons u vs =>
      cases j with
      | zero => rfl
      | succ j =>
        have := ih vs (by simpa using h) j (by simpa using hj)
        have e : (j + 1) * 3 = j * 3 + 1 + 1 + 1 := by omega
        rw [e]
        simp only [List.set_cons_succ, zcs, this]
/-- Each of these slices reads as the bytes of its zone. -/
def Datas (w : World) (vs : List Value) (zs : List Zn) : Prop := vs.length = zs.length ∧ ∀ (j : Nat) (z : Zn) (v : Value), zs[j]? = some z → vs[j]? = some v → Bt w v z.data
/-- A slice that reads as zones. -/
def Zs (w : World) (v : Value) (zs : List Zn) : Prop := ∃ vs, Datas w vs zs ∧ Rw 3 w v zs.length (zcs zs vs)
theorem Datas.below {w w' : World} {vs : List Value} {zs : List Zn} (h : Datas w vs zs) (hb : Below w.heap.size w w') : Datas w' vs zs := ⟨h.1, fun j z v hz hv => (h.2 j z v hz hv).below hb⟩
theorem Zs.below {w w' : World} {v : Value} {zs : List Zn} (h : Zs w v zs) (hb : Below w.heap.size w w') : Zs w' v zs := by
  obtain ⟨vs, h1, h2⟩ := h
  exact ⟨vs, h1.below hb, h2.below hb⟩
theorem Zs.len {w : World} {a : Option Addr} {n cap : Nat} {zs : List Zn} (h : Zs w (.slice a n cap) zs) : n = zs.length ∧ n ≤ 9223372036854775807 := by
  obtain ⟨vs, _, h2⟩ := h
  have h3 := h2.len
  have h4 := h3.2.2
  unfold maxLen at h4
  exact ⟨h3.1, by omega⟩
/-- Zone j of a slice. -/
theorem Zs.at {w : World} {a : Option Addr} {n cap : Nat} {zs : List Zn} (h : Zs w (.slice a n cap) zs) (j : Nat) (z : Zn) (hz : zs[j]? = some z) :
    ∃ b off, a = some ⟨b, off, none⟩ ∧ b < w.heap.size ∧ ∃ v, Bt w v z.data ∧ w.rangeAt b (off + j * 3) [.int .i64 z.st, v, .int .i64 z.lasts] := by
  obtain ⟨vs, ⟨h1, h2⟩, h3⟩ := h
  have hj : j < zs.length := (List.getElem?_eq_some_iff.1 hz).1
  obtain rfl := h3.len.1
  obtain ⟨b, off, ha, hlt, hr⟩ := h3.where (by omega)
  have hv : vs[j]? = some (vs[j]'(by omega)) := List.getElem?_eq_getElem _
  obtain ⟨c0, c1, c2⟩ := zcs_at zs vs h1 j z _ hz hv
  refine ⟨b, off, ha, hlt, _, h2 j z _ hz hv, ?_⟩
  intro i u hi
  match i, hi with
  | 0, hi => cases hi; exact (Nat.add_zero (off + j * 3)).symm ▸ hr _ _ c0
  | 1, hi => cases hi; rw [Nat.add_assoc]; exact hr _ _ c1
  | 2, hi => cases hi; rw [Nat.add_assoc]; exact hr _ _ c2
  | i + 3, hi => simp at hi
/-- A predicate on zones that a function value is. -/
def ZPred (g : Nat) (lb : Array Value) (p : Zn → Bool) (w : World) : Prop :=
  ∀ (W : World) (z : Zn) (a : Option Addr) (n cap : Nat), Below w.heap.size w W → Bt W (.slice a n cap) z.data → Calls Try.prog g (#[zv z.st (.slice a n cap) z.lasts] ++ lb) W fun e w' => e = .returned (.bool (p z)) ∧ Below W.heap.size W w'
def idxOf (p : Zn → Bool) (zs : List Zn) : Int := match zs.findIdx? p with | some i => (i : Int) | none => -1
theorem idxOf_hit (p : Zn → Bool) (zs : List Zn) (j : Nat) (z : Zn) (hz : zs[j]? = some z) (hp : p z = true) (hb : ∀ (k : Nat) (y : Zn), k < j → zs[k]? = some y → p y = false) : idxOf p zs = j := by
  unfold idxOf
  have : zs.findIdx? p = some j := by
    rw [List.findIdx?_eq_some_iff_getElem]
    obtain ⟨hj, hz⟩ := List.getElem?_eq_some_iff.1 hz
    refine ⟨hj, by rw [hz]; exact hp, fun k hk => ?_⟩
    simp [hb k zs[k] hk (List.getElem?_eq_getElem (by omega))]
  rw [this]
theorem idxOf_none (p : Zn → Bool) (zs : List Zn) (hb : ∀ (k : Nat) (y : Zn), zs[k]? = some y → p y = false) : idxOf p zs = -1 := by
  unfold idxOf
  have : zs.findIdx? p = none := by
    rw [List.findIdx?_eq_none_iff]
    intro x hx
    obtain ⟨k, hk, rfl⟩ := List.getElem_of_mem hx
    exact hb k _ (List.getElem?_eq_getElem hk)
  rw [this]
/-- The cells of a device. -/
def dcs (d : Dv) (v r0 r1 f0 f1 : Value) : List Value := [.int .i64 d.size, v, r0, r1, f0, f1, .bool d.down, .int .i64 d.left, .int .i64 d.fault, .int .i64 d.done]
/-- Cells that read as a device. -/
def DvIs (w : World) (cs : List Value) (d : Dv) : Prop := ∃ v r0 r1 f0 f1, cs = dcs d v r0 r1 f0 f1 ∧ Zs w v d.zs ∧ Bt w r0 d.r0 ∧ Bt w r1 d.r1 ∧ Bt w f0 d.f0 ∧ Bt w f1 d.f1
theorem DvIs.below {w w' : World} {cs : List Value} {d : Dv} (h : DvIs w cs d) (hb : Below w.heap.size w w') : DvIs w' cs d := by
  obtain ⟨v, r0, r1, f0, f1, h0, h1, h2, h3, h4, h5⟩ := h
  exact ⟨v, r0, r1, f0, f1, h0, h1.below hb, h2.below hb, h3.below hb, h4.below hb, h5.below hb⟩
theorem Bt.open {w : World} {v : Value} {l : List UInt8} (h : Bt w v l) : ∃ a cap, v = .slice a l.length cap := by
  obtain ⟨a, cap, e, _⟩ := h
  exact ⟨a, cap, e⟩
theorem Zs.open {w : World} {v : Value} {zs : List Zn} (h : Zs w v zs) : ∃ a cap, v = .slice a zs.length cap := by
  obtain ⟨_, _, a, cap, e, _⟩ := h
  exact ⟨a, cap, e⟩
set_option linter.unusedSimpArgs false in
set_option maxRecDepth 100000 in
set_option maxHeartbeats 1000000 in
theorem indexz_any (g : Nat) (lb : Array Value) (p : Zn → Bool) (eg : ∀ args w, (callFunc g args).run Try.prog w = .ok (.enter g args) w) (a : Option Addr) (n cap : Nat) (zs : List Zn) (w : World) (h : Zs w (.slice a n cap) zs) (hp : ZPred g lb p w) :
    Calls Try.prog 51 #[.slice a n cap, .func (.func g) #[] lb] w fun e w' => e = .returned (.int .i64 (idxOf p zs)) ∧ Below w.heap.size w w' := by
  obtain ⟨rfl, hbig⟩ := h.len
  have HH := Lib.hid h
  have HP := Lib.hid hp
  clear h hp
  go_enter Try.func51, Try.ntmps51
  go_wp2_with fail
  go_loopw [5, 8] (fun _ i wr => ∃ j : Nat, j ≤ zs.length ∧ i = .int .i64 j ∧ Below w.heap.size w wr ∧ Hid (∀ (k : Nat) (y : Zn), k < j → zs[k]? = some y → p y = false)) (fun _ i _ => zs.length - (intOf i).toNat)
  case atStart => exact ⟨0, by omega, rfl, Below.refl _ _, Lib.hid (fun k y hk => by omega)⟩
  case round =>
    obtain ⟨j, hj, rfl, hb, hno⟩ := hrel
    by_cases hlt : j < zs.length
    · have hz : zs[j]? = some zs[j] := List.getElem?_eq_getElem hlt
      obtain ⟨b, off, rfl, hblt, v, hbt, hr⟩ := (HH.out.below hb).at j zs[j] hz
      obtain ⟨a2, c2, rfl⟩ := hbt.open
      have hcall := HP.out wr zs[j] a2 zs[j].data.length c2 hb hbt
      generalize hy : zs[j] = y at hz hr hcall hbt
      have HZ := Lib.hid hz
      have i1 : (0 : Int) ≤ (j : Int) := by omega
      have i2 : (j : Int) < (zs.length : Int) := by omega
      have hi3 : (Try.prog.info? 52).map (·.size) = some 3 := by kernel_rfl
      unfold zv at hcall
      have HY := Lib.hid hy
      clear hz hy hbt
      cases hq : p y with
      | true =>
        rw [hq] at hcall
        have HQ := Lib.hid hq
        clear hq
        go_wp2_with (refine wpList_load_at (by rfl) 52 (.tmp 14) rfl b (off + j * 3) (by rfl) [.int .i64 y.st, .slice a2 y.data.length c2, .int .i64 y.lasts] _ hr Try.underlying52 rfl hi3 ?_)
        refine hcall.mono ?_
        rintro e w2 ⟨rfl, hb2⟩
        go_wp2
        go_ret
        rw [idxOf_hit p zs j y HZ.out HQ.out hno.out]
        exact ⟨rfl, hb.trans (hb2.mono hb.size)⟩
      | false =>
        rw [hq] at hcall
        have HQ := Lib.hid hq
        clear hq
        go_wp2_with (refine wpList_load_at (by rfl) 52 (.tmp 14) rfl b (off + j * 3) (by rfl) [.int .i64 y.st, .slice a2 y.data.length c2, .int .i64 y.lasts] _ hr Try.underlying52 rfl hi3 ?_)
        refine hcall.mono ?_
        rintro e w2 ⟨rfl, hb2⟩
        go_wp2
        go_roundw
        case rel =>
          refine ⟨j + 1, by omega, congrArg (Value.int .i64) (by omega), hb.trans (hb2.mono hb.size), Lib.hid (fun k x hk hx => ?_)⟩
          rcases Nat.lt_or_ge k j with h | h
          · exact hno.out k x h hx
          · obtain rfl : k = j := by omega
            rw [HZ.out] at hx
            cases hx
            exact HQ.out
        case measure =>
          show zs.length - ((j : Int) + 1).toNat < zs.length - (j : Int).toNat
          omega
    · obtain rfl : j = zs.length := by omega
      go_wp2
      go_ret
      rw [idxOf_none p zs (fun k y hy => hno.out k y (List.getElem?_eq_some_iff.1 hy).1 hy)]
      exact ⟨rfl, hb⟩
theorem containsz_any (g : Nat) (lb : Array Value) (p : Zn → Bool) (eg : ∀ args w, (callFunc g args).run Try.prog w = .ok (.enter g args) w) (a : Option Addr) (n cap : Nat) (zs : List Zn) (w : World) (h : Zs w (.slice a n cap) zs) (hp : ZPred g lb p w) :
    Calls Try.prog 30 #[.slice a n cap, .func (.func g) #[] lb] w fun e w' => e = .returned (.bool (decide (0 ≤ idxOf p zs))) ∧ Below w.heap.size w w' := by
  have hc := indexz_any g lb p eg a n cap zs w h hp
  generalize idxOf p zs = r at hc ⊢
  clear h hp
  go_enter Try.func30, Try.ntmps30
  go_wp2_with fail
  refine hc.mono ?_
  rintro e w2 ⟨rfl, hb2⟩
  go_wp2
  go_ret
  exact ⟨rfl, hb2⟩
theorem idxOf_any (p : Zn → Bool) (zs : List Zn) : decide (0 ≤ idxOf p zs) = zs.any p := by
  unfold idxOf
  cases h : zs.findIdx? p with
  | none =>
    rw [List.findIdx?_eq_none_iff] at h
    simp only [show ¬ (0 : Int) ≤ -1 by omega, decide_false]
    symm
    rw [Bool.eq_false_iff]
    intro ha
    obtain ⟨x, hx, hp⟩ := List.any_eq_true.1 ha
    rw [h x hx] at hp
    cases hp
  | some i =>
    rw [List.findIdx?_eq_some_iff_getElem] at h
    obtain ⟨hi, hp, _⟩ := h
    simp
    exact ⟨_, List.getElem_mem hi, hp⟩
end Go.Proofs.Ytdiokmaomglefaa
/- Devices: Check. -/
namespace Go.Proofs.Ytdiokmaomglefaa
open Go Go.RowKit

theorem check1_any (D : Nat) (size : Int) (w : World) (hc : w.cell? ⟨D, 0, none⟩ = some (.int .i64 size)) : ZPred 31 #[.pointer (some ⟨D, 0, none⟩)] (fun z => !zoneOk size z) w := by
  intro W z a n cap hb hbt
  obtain ⟨rfl, _⟩ := hbt.len
  have hlt : D < w.heap.size := World.block_lt_of_cell? w _ hc
  have hc' := (hb.cell (p := ⟨D, 0, none⟩) hlt).trans hc
  have hne : D ≠ W.heap.size := by have := hb.size; omega
  have hb1 : Below W.heap.size W (W.alloc (.cells #[.int .i64 z.st, .slice a z.data.length cap, .int .i64 z.lasts] 52)) := (Below.refl _ W).alloc (Nat.le_refl _) _
  have hc2 := (hb1.cell (p := ⟨D, 0, none⟩) (Nat.lt_of_lt_of_le hlt hb.size)).trans hc'
  generalize hz : (!zoneOk size z) = r
  have HZ := Lib.hid hz
  clear hz hc hb hbt hc'
  show Calls Try.prog 31 #[zv z.st (.slice a z.data.length cap) z.lasts, .pointer (some ⟨D, 0, none⟩)] W _
  unfold zv
  go_enter Try.func31, Try.ntmps31
  go_wp2_with fail
  refine (zcheck_any z size a cap _).mono ?_
  rintro e w2 ⟨rfl, hb2⟩
  go_wp2
  go_ret
  rw [HZ.out]
  exact ⟨rfl, hb1.trans (hb2.mono (by simp))⟩
/-- Whether a root sector, and the fresh one, are not as they may be. -/
def badN (r f : Nat) : Bool := !decide (r = 128) || (!decide (f = 0) && !decide (f = 128))
theorem devOk_bad (d : Dv) : devOk d = (!(d.zs.any (fun z => !zoneOk d.size z) || badN d.r0.length d.f0.length || badN d.r1.length d.f1.length) && decide ((0 : Int) < d.zs.length) && decide ((d.zs.length : Int) ≤ 64) && decide (0 < d.size) && decide (d.size ≤ 65536)) := by
  unfold devOk rootsOk
  rw [List.all_eq_not_any_not]
  generalize (d.zs.any fun z => !zoneOk d.size z) = x
  cases x <;> (rw [Bool.eq_iff_iff]; simp [-List.length_eq_zero_iff, badN]; try omega)
/-- What a round of Check's loop leaves. -/
def CkRel (x y z : Bool) (t i : Value) : Prop := (i = .int .i64 0 ∧ t = .bool x) ∨ (i = .int .i64 1 ∧ t = .bool y) ∨ (i = .int .i64 2 ∧ t = .bool z)
theorem badN_one (n m : Nat) (h : n ≠ 128) : badN n m = true := by simp [badN, h]
theorem badN_two (m : Nat) (h : m ≠ 0) (h2 : m ≠ 128) : badN 128 m = true := by simp [badN, h, h2]
theorem ne0 (n : Nat) (h : n ≠ 0) : ((n : Int) == 0) = false ∧ ((n : Int) != 0) = true := by
  have : ¬ (n : Int) = 0 := by omega
  simp [h]
theorem ne128 (n : Nat) (h : n ≠ 128) : ((n : Int) == 128) = false ∧ ((n : Int) != 128) = true := by
  have : ¬ (n : Int) = 128 := by omega
  simp [this]
set_option linter.unusedSimpArgs false in
set_option maxRecDepth 100000 in
set_option maxHeartbeats 4000000 in
theorem dcheck_any (d : Dv) (cs : List Value) (w : World) (h : DvIs w cs d) :
    Calls Try.prog 15 #[.agg cs.toArray] w fun e w' => e = .returned (.bool (devOk d)) ∧ Below w.heap.size w w' := by
  obtain ⟨vz, r0, r1, f0, f1, rfl, hz, h0, h1, h2, h3⟩ := h
  obtain ⟨az, cz, rfl⟩ := hz.open
  obtain ⟨a0, c0, rfl⟩ := h0.open
  obtain ⟨a1, c1, rfl⟩ := h1.open
  obtain ⟨a2, c2, rfl⟩ := h2.open
  obtain ⟨a3, c3, rfl⟩ := h3.open
  clear h0 h1 h2 h3
  rw [devOk_bad]
  obtain ⟨size, zs, lr0, lr1, lf0, lf1, down, left, fault, done⟩ := d
  simp only [dcs] at hz ⊢
  generalize lr0.length = n0 at *
  generalize lr1.length = n1 at *
  generalize lf0.length = m0 at *
  generalize lf1.length = m1 at *
  have hb := (Below.refl _ w).alloc (Nat.le_refl _) (.cells #[.int .i64 size, .slice az zs.length cz, .slice a0 n0 c0, .slice a1 n1 c1, .slice a2 m0 c2, .slice a3 m1 c3, .bool down, .int .i64 left, .int .i64 fault, .int .i64 done] 27)
  have hblk := heap_alloc_new w (.cells #[.int .i64 size, .slice az zs.length cz, .slice a0 n0 c0, .slice a1 n1 c1, .slice a2 m0 c2, .slice a3 m1 c3, .bool down, .int .i64 left, .int .i64 fault, .int .i64 done] 27)
  have hz1 := hz.below hb
  have hk := check1_any w.heap.size size _ ((cell_of_block hblk 0).trans rfl)
  have hcc := containsz_any 31 #[.pointer (some ⟨w.heap.size, 0, none⟩)] _ (enters_of Try.func31 (by kernel_rfl) rfl) az zs.length cz zs _ hz1 hk
  rw [idxOf_any] at hcc
  generalize zs.any (fun z => !zoneOk size z) = x at hcc ⊢
  clear hz1 hz hk
  generalize zs.length = nz at *
  obtain ⟨y, hy⟩ : ∃ y, (x || badN n0 m0) = y := ⟨_, rfl⟩
  obtain ⟨z, hz⟩ : ∃ z, (y || badN n1 m1) = z := ⟨_, rfl⟩
  obtain ⟨r, hr⟩ : ∃ r, (!z && decide ((0 : Int) < nz) && decide ((nz : Int) ≤ 64) && decide (0 < size) && decide (size ≤ 65536)) = r := ⟨_, rfl⟩
  have hr' : (!(x || badN n0 m0 || badN n1 m1) && decide ((0 : Int) < nz) && decide ((nz : Int) ≤ 64) && decide (0 < size) && decide (size ≤ 65536)) = r := by rw [hy, hz]; exact hr
  rw [hr']
  have HY := Lib.hid hy
  have HZ := Lib.hid hz
  have HR := Lib.hid hr
  have HB := Lib.hid hblk
  clear hr' hy hz hr hblk
  go_enter Try.func15, Try.ntmps15
  go_wp2_with fail
  refine hcc.mono ?_
  rintro e w2 ⟨rfl, hb2⟩
  have g2 := blk_on HB.out hb2
  have hbb := hb.trans (hb2.mono hb.size)
  clear hcc hb2 hb HB
  obtain ⟨D, hD⟩ : ∃ D, w.heap.size = D := ⟨_, rfl⟩
  rw [hD] at g2 ⊢
  have HD := Lib.hid hD
  clear hD
  have c2' : w2.cell? ⟨D, 1, none⟩ = some (.slice az nz cz) := (cell_of_block g2 1).trans rfl
  have c3' : w2.cell? ⟨D, 0, none⟩ = some (.int .i64 size) := (cell_of_block g2 0).trans rfl
  have c4' : w2.cell? ⟨D, 2, none⟩ = some (.slice a0 n0 c0) := (cell_of_block g2 2).trans rfl
  have c5' : w2.cell? ⟨D, 3, none⟩ = some (.slice a1 n1 c1) := (cell_of_block g2 3).trans rfl
  have c6' : w2.cell? ⟨D, 4, none⟩ = some (.slice a2 m0 c2) := (cell_of_block g2 4).trans rfl
  have c7' : w2.cell? ⟨D, 5, none⟩ = some (.slice a3 m1 c3) := (cell_of_block g2 5).trans rfl
  have x0 : ∀ w, (Instr.index 25 (.agg #[.slice a0 n0 c0, .slice a1 n1 c1]) (.int .i64 0)).run Try.prog w = .ok (.slice a0 n0 c0) w := fun w => by simp [Instr.index, go_sem, Result.andThen]
  have x1 : ∀ w, (Instr.index 25 (.agg #[.slice a0 n0 c0, .slice a1 n1 c1]) (.int .i64 1)).run Try.prog w = .ok (.slice a1 n1 c1) w := fun w => by simp [Instr.index, go_sem, Result.andThen]
  clear g2
  go_wp2_with fail
  go_loop [3, 4, 5, 6, 13] (fun t _ _ _ i => CkRel x y z t i) (fun _ _ _ _ i => 2 - (intOf i).toNat)
  case atStart => exact Or.inl ⟨rfl, rfl⟩
  case round =>
    rcases hrel with ⟨rfl, rfl⟩ | ⟨rfl, rfl⟩ | ⟨rfl, rfl⟩
    · clear x1
      cases x with
      | true =>
        have hv : y = true := HY.out.symm.trans (rfl)
        subst hv
        clear HY HZ HR
        go_wp2
        go_round
        case rel => exact Or.inr (Or.inl ⟨rfl, rfl⟩)
        case measure => simp [intOf]
      | false =>
        by_cases e1 : n0 = 128
        · subst e1
          by_cases e2 : m0 = 0
          · subst e2
            have hv : y = false := HY.out.symm.trans (rfl)
            subst hv
            clear HY HZ HR
            go_wp2
            go_round
            case rel => exact Or.inr (Or.inl ⟨rfl, rfl⟩)
            case measure => simp [intOf]
          · by_cases e3 : m0 = 128
            · subst e3
              have hv : y = false := HY.out.symm.trans (rfl)
              subst hv
              clear HY HZ HR
              go_wp2
              go_round
              case rel => exact Or.inr (Or.inl ⟨rfl, rfl⟩)
              case measure => simp [intOf]
            · have hb := badN_two m0 e2 e3
              obtain ⟨k1, k2⟩ := ne0 m0 e2
              obtain ⟨k3, k4⟩ := ne128 m0 e3
              have hv : y = true := HY.out.symm.trans ((congrArg (false || ·) hb).trans rfl)
              subst hv
              clear hb e2 e3 HY HZ HR
              go_wp2
              go_round
              case rel => exact Or.inr (Or.inl ⟨rfl, rfl⟩)
              case measure => simp [intOf]
        · have hb := badN_one n0 m0 e1
          obtain ⟨k1, k2⟩ := ne128 n0 e1
          have hv : y = true := HY.out.symm.trans ((congrArg (false || ·) hb).trans rfl)
          subst hv
          clear hb e1 HY HZ HR
          go_wp2
          go_round
          case rel => exact Or.inr (Or.inl ⟨rfl, rfl⟩)
          case measure => simp [intOf]
    · clear x0
      cases y with
      | true =>
        have hv : z = true := HZ.out.symm.trans (rfl)
        subst hv
        clear HY HZ HR
        go_wp2
        go_round
        case rel => exact Or.inr (Or.inr ⟨rfl, rfl⟩)
        case measure => simp [intOf]
      | false =>
        by_cases e1 : n1 = 128
        · subst e1
          by_cases e2 : m1 = 0
          · subst e2
            have hv : z = false := HZ.out.symm.trans (rfl)
            subst hv
            clear HY HZ HR
            go_wp2
            go_round
            case rel => exact Or.inr (Or.inr ⟨rfl, rfl⟩)
            case measure => simp [intOf]
          · by_cases e3 : m1 = 128
            · subst e3
              have hv : z = false := HZ.out.symm.trans (rfl)
              subst hv
              clear HY HZ HR
              go_wp2
              go_round
              case rel => exact Or.inr (Or.inr ⟨rfl, rfl⟩)
              case measure => simp [intOf]
            · have hb := badN_two m1 e2 e3
              obtain ⟨k1, k2⟩ := ne0 m1 e2
              obtain ⟨k3, k4⟩ := ne128 m1 e3
              have hv : z = true := HZ.out.symm.trans ((congrArg (false || ·) hb).trans rfl)
              subst hv
              clear hb e2 e3 HY HZ HR
              go_wp2
              go_round
              case rel => exact Or.inr (Or.inr ⟨rfl, rfl⟩)
              case measure => simp [intOf]
        · have hb := badN_one n1 m1 e1
          obtain ⟨k1, k2⟩ := ne128 n1 e1
          have hv : z = true := HZ.out.symm.trans ((congrArg (false || ·) hb).trans rfl)
          subst hv
          clear hb e1 HY HZ HR
          go_wp2
          go_round
          case rel => exact Or.inr (Or.inr ⟨rfl, rfl⟩)
          case measure => simp [intOf]
    · clear x0 x1
      cases z with
      | true =>
        obtain rfl : r = false := HR.out.symm.trans rfl
        clear HY HZ HR
        go_wp2
        go_ret
        exact ⟨rfl, hbb⟩
      | false =>
        have hr := HR.out
        clear HY HZ HR
        by_cases g0 : (0 : Int) < (nz : Int)
        · skip
          have q0 : decide (0 < nz) = true := by simp; omega
          by_cases g1 : (nz : Int) ≤ 64
          · skip
            have q1 : decide (nz ≤ 64) = true := by simp; omega
            by_cases g2 : 0 < size
            · skip
              by_cases g3 : size ≤ 65536
              · skip
                obtain rfl : r = true := by rw [← hr]; simp; omega
                clear hr
                go_wp2
                go_ret
                exact ⟨rfl, hbb⟩
              · skip
                have p3 : decide (size ≤ 65536) = false := decide_eq_false g3
                obtain rfl : r = false := by rw [← hr]; simp; intros; omega
                clear hr
                go_wp2
                go_ret
                exact ⟨rfl, hbb⟩
            · skip
              have p2 : decide (0 < size) = false := decide_eq_false g2
              obtain rfl : r = false := by rw [← hr]; simp; intros; omega
              clear hr
              go_wp2
              go_ret
              exact ⟨rfl, hbb⟩
          · skip
            have q1 : decide (nz ≤ 64) = false := by simp; omega
            have p1 : decide ((nz : Int) ≤ 64) = false := decide_eq_false g1
            obtain rfl : r = false := by rw [← hr]; simp; intros; omega
            clear hr
            go_wp2
            go_ret
            exact ⟨rfl, hbb⟩
        · skip
          have q0 : decide (0 < nz) = false := by simp; omega
          have p0 : decide ((0 : Int) < (nz : Int)) = false := decide_eq_false g0
          obtain rfl : r = false := by rw [← hr]; simp; intros; omega
          clear hr
          go_wp2
          go_ret
          exact ⟨rfl, hbb⟩
end Go.Proofs.Ytdiokmaomglefaa
/- Devices: how many zones are open, or empty; the first zone of a state with room. -/
namespace Go.Proofs.Ytdiokmaomglefaa
open Go Go.RowKit

theorem count_snoc (p : Zn → Bool) (zs : List Zn) (j : Nat) (y : Zn) (hz : zs[j]? = some y) : (zs.take (j + 1)).countP p = (zs.take j).countP p + if p y = true then 1 else 0 := by
  obtain ⟨hj, rfl⟩ := List.getElem?_eq_some_iff.1 hz
  rw [List.take_succ_eq_append_getElem hj, List.countP_append, List.countP_singleton]
set_option linter.unusedSimpArgs false in
set_option maxRecDepth 100000 in
set_option maxHeartbeats 2000000 in
theorem dopen_any (d : Dv) (cs : List Value) (w : World) (h : DvIs w cs d) :
    Calls Try.prog 20 #[.agg cs.toArray] w fun e w' => e = .returned (.int .i64 (openN d.zs)) ∧ Below w.heap.size w w' := by
  obtain ⟨vz, r0, r1, f0, f1, rfl, hz, h0, h1, h2, h3⟩ := h
  obtain ⟨az, cz, rfl⟩ := hz.open
  clear h0 h1 h2 h3
  obtain ⟨size, zs, lr0, lr1, lf0, lf1, down, left, fault, done⟩ := d
  simp only [dcs] at hz ⊢
  have hbig := hz.len.2
  have hb := (Below.refl _ w).alloc (Nat.le_refl _) (.cells #[.int .i64 size, .slice az zs.length cz, r0, r1, f0, f1, .bool down, .int .i64 left, .int .i64 fault, .int .i64 done] 27)
  have HH := Lib.hid (hz.below hb)
  have HB := Lib.hid hb
  clear hz hb
  obtain ⟨c, hc⟩ : ∃ c : List Zn → Nat, c = openN := ⟨_, rfl⟩
  rw [← hc]
  have hcp : ∀ (j : Nat) (y : Zn), zs[j]? = some y → c (zs.take (j + 1)) = c (zs.take j) + if y.st = 1 then 1 else 0 := fun j y hy => by
    rw [hc]
    unfold openN
    rw [count_snoc _ zs j y hy]
    simp
  have hc0 : c (zs.take 0) = 0 := by rw [hc]; rfl
  have hcl : ∀ j, c (zs.take j) ≤ j := fun j => by
    rw [hc]
    exact Nat.le_trans List.countP_le_length (List.length_take_le _ _)
  have HC := Lib.hid hcp
  have H0 := Lib.hid hc0
  have HL := Lib.hid hcl
  clear hcp hc0 hcl hc
  go_enter Try.func20, Try.ntmps20
  go_wp2_with fail
  go_loopw [2, 4, 8] (fun t _ i wr => ∃ j : Nat, j ≤ zs.length ∧ i = .int .i64 j ∧ t = .int .i64 (c (zs.take j)) ∧ Below w.heap.size w wr ∧ Hid (Below (w.heap.size + 1) (w.alloc (.cells #[.int .i64 size, .slice az zs.length cz, r0, r1, f0, f1, .bool down, .int .i64 left, .int .i64 fault, .int .i64 done] 27)) wr)) (fun _ _ i _ => zs.length - (intOf i).toNat)
  case atStart => exact ⟨0, by omega, rfl, congrArg (Value.int .i64) (by rw [H0.out]; rfl), HB.out, Lib.hid (Below.refl _ _)⟩
  case round =>
    obtain ⟨j, hj, rfl, rfl, hbr, HW⟩ := hrel
    by_cases hlt : j < zs.length
    · have hz : zs[j]? = some zs[j] := List.getElem?_eq_getElem hlt
      obtain ⟨b, off, rfl, hblt, v, hbt, hr⟩ := (HH.out.below (by simpa using HW.out)).at j zs[j] hz
      generalize hy : zs[j] = y at hz hr hbt
      have hl := HL.out j
      have hcj := HC.out j y hz
      have HCJ := Lib.hid hcj
      obtain ⟨a2, c2, rfl⟩ := hbt.open
      clear hz hy hbt hcj
      generalize hct : c (zs.take j) = ct at *
      have HCT := Lib.hid hct
      have hl2 : (ct : Int) ≤ 9223372036854775806 := by omega
      have i1 : (0 : Int) ≤ (j : Int) := by omega
      have i2 : (j : Int) < (zs.length : Int) := by omega
      have hi3 : (Try.prog.info? 52).map (·.size) = some 3 := by kernel_rfl
      clear hct
      by_cases hst : y.st = 1
      · rw [if_pos hst] at HCJ
        rw [hst] at hr
        clear hst
        go_wp2_with (refine wpList_load_at (by rfl) 52 (.tmp 10) rfl b (off + j * 3) (by rfl) [.int .i64 1, .slice a2 y.data.length c2, .int .i64 y.lasts] _ hr Try.underlying52 rfl hi3 ?_)
        go_roundw
        case rel =>
          have hbw := (Below.refl wr.heap.size wr).alloc (Nat.le_refl _) (.cells #[.int .i64 1, .slice a2 y.data.length c2, .int .i64 y.lasts] 52)
          refine ⟨j + 1, by omega, congrArg (Value.int .i64) (by omega), congrArg (Value.int .i64) (by rw [HCJ.out]; omega), hbr.trans (hbw.mono hbr.size), Lib.hid (HW.out.trans (hbw.mono (by have := HW.out.size; simp at this; omega)))⟩
        case measure =>
          show zs.length - ((j : Int) + 1).toNat < zs.length - (j : Int).toNat
          omega
      · rw [if_neg hst] at HCJ
        have hst2 : (y.st == 1) = false := by simpa using hst
        clear hst
        go_wp2_with (refine wpList_load_at (by rfl) 52 (.tmp 10) rfl b (off + j * 3) (by rfl) [.int .i64 y.st, .slice a2 y.data.length c2, .int .i64 y.lasts] _ hr Try.underlying52 rfl hi3 ?_)
        go_roundw
        case rel =>
          have hbw := (Below.refl wr.heap.size wr).alloc (Nat.le_refl _) (.cells #[.int .i64 y.st, .slice a2 y.data.length c2, .int .i64 y.lasts] 52)
          refine ⟨j + 1, by omega, congrArg (Value.int .i64) (by omega), congrArg (Value.int .i64) (by rw [HCJ.out]; omega), hbr.trans (hbw.mono hbr.size), Lib.hid (HW.out.trans (hbw.mono (by have := HW.out.size; simp at this; omega)))⟩
        case measure =>
          show zs.length - ((j : Int) + 1).toNat < zs.length - (j : Int).toNat
          omega
    · obtain rfl : j = zs.length := by omega
      rw [List.take_length]
      go_wp2
      go_ret
      exact ⟨rfl, hbr⟩
set_option linter.unusedSimpArgs false in
set_option maxRecDepth 100000 in
set_option maxHeartbeats 2000000 in
theorem lempty_any (d : Dv) (cs : List Value) (w : World) (h : DvIs w cs d) :
    Calls Try.prog 13 #[.agg cs.toArray] w fun e w' => e = .returned (.int .i64 (emptyN d.zs)) ∧ Below w.heap.size w w' := by
  obtain ⟨vz, r0, r1, f0, f1, rfl, hz, h0, h1, h2, h3⟩ := h
  obtain ⟨az, cz, rfl⟩ := hz.open
  clear h0 h1 h2 h3
  obtain ⟨size, zs, lr0, lr1, lf0, lf1, down, left, fault, done⟩ := d
  simp only [dcs] at hz ⊢
  have hbig := hz.len.2
  have hb := (Below.refl _ w).alloc (Nat.le_refl _) (.cells #[.int .i64 size, .slice az zs.length cz, r0, r1, f0, f1, .bool down, .int .i64 left, .int .i64 fault, .int .i64 done] 27)
  have HH := Lib.hid (hz.below hb)
  have HB := Lib.hid hb
  clear hz hb
  obtain ⟨c, hc⟩ : ∃ c : List Zn → Nat, c = emptyN := ⟨_, rfl⟩
  rw [← hc]
  have hcp : ∀ (j : Nat) (y : Zn), zs[j]? = some y → c (zs.take (j + 1)) = c (zs.take j) + if y.st = 0 then 1 else 0 := fun j y hy => by
    rw [hc]
    unfold emptyN
    rw [count_snoc _ zs j y hy]
    simp
  have hc0 : c (zs.take 0) = 0 := by rw [hc]; rfl
  have hcl : ∀ j, c (zs.take j) ≤ j := fun j => by
    rw [hc]
    exact Nat.le_trans List.countP_le_length (List.length_take_le _ _)
  have HC := Lib.hid hcp
  have H0 := Lib.hid hc0
  have HL := Lib.hid hcl
  clear hcp hc0 hcl hc
  go_enter Try.func13, Try.ntmps13
  go_wp2_with fail
  go_loopw [2, 4, 8] (fun t _ i wr => ∃ j : Nat, j ≤ zs.length ∧ i = .int .i64 j ∧ t = .int .i64 (c (zs.take j)) ∧ Below w.heap.size w wr ∧ Hid (Below (w.heap.size + 1) (w.alloc (.cells #[.int .i64 size, .slice az zs.length cz, r0, r1, f0, f1, .bool down, .int .i64 left, .int .i64 fault, .int .i64 done] 27)) wr)) (fun _ _ i _ => zs.length - (intOf i).toNat)
  case atStart => exact ⟨0, by omega, rfl, congrArg (Value.int .i64) (by rw [H0.out]; rfl), HB.out, Lib.hid (Below.refl _ _)⟩
  case round =>
    obtain ⟨j, hj, rfl, rfl, hbr, HW⟩ := hrel
    by_cases hlt : j < zs.length
    · have hz : zs[j]? = some zs[j] := List.getElem?_eq_getElem hlt
      obtain ⟨b, off, rfl, hblt, v, hbt, hr⟩ := (HH.out.below (by simpa using HW.out)).at j zs[j] hz
      generalize hy : zs[j] = y at hz hr hbt
      have hl := HL.out j
      have hcj := HC.out j y hz
      have HCJ := Lib.hid hcj
      obtain ⟨a2, c2, rfl⟩ := hbt.open
      clear hz hy hbt hcj
      generalize hct : c (zs.take j) = ct at *
      have HCT := Lib.hid hct
      have hl2 : (ct : Int) ≤ 9223372036854775806 := by omega
      have i1 : (0 : Int) ≤ (j : Int) := by omega
      have i2 : (j : Int) < (zs.length : Int) := by omega
      have hi3 : (Try.prog.info? 52).map (·.size) = some 3 := by kernel_rfl
      clear hct
      by_cases hst : y.st = 0
      · rw [if_pos hst] at HCJ
        rw [hst] at hr
        clear hst
        go_wp2_with (refine wpList_load_at (by rfl) 52 (.tmp 10) rfl b (off + j * 3) (by rfl) [.int .i64 0, .slice a2 y.data.length c2, .int .i64 y.lasts] _ hr Try.underlying52 rfl hi3 ?_)
        go_roundw
        case rel =>
          have hbw := (Below.refl wr.heap.size wr).alloc (Nat.le_refl _) (.cells #[.int .i64 0, .slice a2 y.data.length c2, .int .i64 y.lasts] 52)
          refine ⟨j + 1, by omega, congrArg (Value.int .i64) (by omega), congrArg (Value.int .i64) (by rw [HCJ.out]; omega), hbr.trans (hbw.mono hbr.size), Lib.hid (HW.out.trans (hbw.mono (by have := HW.out.size; simp at this; omega)))⟩
        case measure =>
          show zs.length - ((j : Int) + 1).toNat < zs.length - (j : Int).toNat
          omega
      · rw [if_neg hst] at HCJ
        have hst2 : (y.st == 0) = false := by simpa using hst
        clear hst
        go_wp2_with (refine wpList_load_at (by rfl) 52 (.tmp 10) rfl b (off + j * 3) (by rfl) [.int .i64 y.st, .slice a2 y.data.length c2, .int .i64 y.lasts] _ hr Try.underlying52 rfl hi3 ?_)
        go_roundw
        case rel =>
          have hbw := (Below.refl wr.heap.size wr).alloc (Nat.le_refl _) (.cells #[.int .i64 y.st, .slice a2 y.data.length c2, .int .i64 y.lasts] 52)
          refine ⟨j + 1, by omega, congrArg (Value.int .i64) (by omega), congrArg (Value.int .i64) (by rw [HCJ.out]; omega), hbr.trans (hbw.mono hbr.size), Lib.hid (HW.out.trans (hbw.mono (by have := HW.out.size; simp at this; omega)))⟩
        case measure =>
          show zs.length - ((j : Int) + 1).toNat < zs.length - (j : Int).toNat
          omega
    · obtain rfl : j = zs.length := by omega
      rw [List.take_length]
      go_wp2
      go_ret
      exact ⟨rfl, hbr⟩
end Go.Proofs.Ytdiokmaomglefaa
/- Devices: the first zone of a state with room. -/
namespace Go.Proofs.Ytdiokmaomglefaa
open Go Go.RowKit

set_option linter.unusedSimpArgs false in
set_option maxHeartbeats 1000000 in
theorem first1_any (A D N : Nat) (st size n : Int) (h0 : 0 ≤ size) (h1 : size ≤ 65536) (w : World) (ha : w.cell? ⟨A, 0, none⟩ = some (.int .i64 st)) (hd : w.cell? ⟨D, 0, none⟩ = some (.int .i64 size)) (hn : w.cell? ⟨N, 0, none⟩ = some (.int .i64 n)) :
    ZPred 66 #[.pointer (some ⟨A, 0, none⟩), .pointer (some ⟨D, 0, none⟩), .pointer (some ⟨N, 0, none⟩)] (firstP size st n) w := by
  intro W z a m cap hb hbt
  obtain ⟨rfl, p1, p2, p3⟩ := hbt.len
  have lA : A < w.heap.size := World.block_lt_of_cell? w _ ha
  have lD : D < w.heap.size := World.block_lt_of_cell? w _ hd
  have lN : N < w.heap.size := World.block_lt_of_cell? w _ hn
  have hs := hb.size
  have hb1 : Below W.heap.size W (W.alloc (.cells #[.int .i64 z.st, .slice a z.data.length cap, .int .i64 z.lasts] 52)) := (Below.refl _ W).alloc (Nat.le_refl _) _
  have ca := (hb1.cell (p := ⟨A, 0, none⟩) (Nat.lt_of_lt_of_le lA hs)).trans ((hb.cell (p := ⟨A, 0, none⟩) lA).trans ha)
  have cd := (hb1.cell (p := ⟨D, 0, none⟩) (Nat.lt_of_lt_of_le lD hs)).trans ((hb.cell (p := ⟨D, 0, none⟩) lD).trans hd)
  have cn := (hb1.cell (p := ⟨N, 0, none⟩) (Nat.lt_of_lt_of_le lN hs)).trans ((hb.cell (p := ⟨N, 0, none⟩) lN).trans hn)
  obtain ⟨r, hr⟩ : ∃ r, firstP size st n z = r := ⟨_, rfl⟩
  rw [hr]
  unfold firstP at hr
  have hwr : IntKind.i64.wrap (size - (z.data.length : Int)) = size - (z.data.length : Int) := IntWalk.i64_in _ (by omega)
  show Calls Try.prog 66 #[zv z.st (.slice a z.data.length cap) z.lasts, .pointer (some ⟨A, 0, none⟩), .pointer (some ⟨D, 0, none⟩), .pointer (some ⟨N, 0, none⟩)] W _
  unfold zv
  clear ha hd hn hb lA lD lN hs hbt
  by_cases hst : z.st = st
  · by_cases hle : n ≤ size - (z.data.length : Int)
    · obtain rfl : r = true := by rw [← hr]; simp [hst, hle]
      have e1 : (z.st == st) = true := by simpa using hst
      clear hr hst
      go_enter Try.func66, Try.ntmps66
      go_wp2
      go_ret
      exact ⟨rfl, hb1⟩
    · obtain rfl : r = false := by rw [← hr]; simp [hst, hle]
      have e1 : (z.st == st) = true := by simpa using hst
      have e2 : decide (n ≤ size - (z.data.length : Int)) = false := decide_eq_false hle
      clear hr hst hle
      go_enter Try.func66, Try.ntmps66
      go_wp2
      go_ret
      exact ⟨rfl, hb1⟩
  · obtain rfl : r = false := by rw [← hr]; simp [hst]
    have e1 : (z.st == st) = false := by simpa using hst
    clear hr hst
    go_enter Try.func66, Try.ntmps66
    go_wp2
    go_ret
    exact ⟨rfl, hb1⟩
set_option linter.unusedSimpArgs false in
set_option maxRecDepth 100000 in
set_option maxHeartbeats 1000000 in
theorem first_any (d : Dv) (cs : List Value) (st n : Int) (w : World) (h : DvIs w cs d) (h0 : 0 ≤ d.size) (h1 : d.size ≤ 65536) :
    Calls Try.prog 45 #[.agg cs.toArray, .int .i64 st, .int .i64 n] w fun e w' => e = .returned (.int .i64 (idxOf (firstP d.size st n) d.zs)) ∧ Below w.heap.size w w' := by
  obtain ⟨vz, r0, r1, f0, f1, rfl, hz, q0, q1, q2, q3⟩ := h
  obtain ⟨az, cz, rfl⟩ := hz.open
  clear q0 q1 q2 q3
  obtain ⟨size, zs, lr0, lr1, lf0, lf1, down, left, fault, done⟩ := d
  simp only [dcs] at hz h0 h1 ⊢
  go_enter Try.func45, Try.ntmps45
  go_wp2_with fail
  refine calls_world (fun w0 e0 => ?_)
  obtain ⟨g1, g2, g3, hb, _⟩ := three_alloc e0
  clear e0
  have hk := first1_any (w.heap.size + 1) w.heap.size (w.heap.size + 2) st size n h0 h1 w0 ((cell_of_block g2 0).trans rfl) ((cell_of_block g1 0).trans rfl) ((cell_of_block g3 0).trans rfl)
  have hcc := indexz_any 66 #[.pointer (some ⟨w.heap.size + 1, 0, none⟩), .pointer (some ⟨w.heap.size, 0, none⟩), .pointer (some ⟨w.heap.size + 2, 0, none⟩)] _ (enters_of Try.func66 (by kernel_rfl) rfl) az zs.length cz zs w0 (hz.below hb) hk
  refine hcc.mono ?_
  rintro e w2 ⟨rfl, hb2⟩
  clear hcc hk g1 g2 g3 hz
  go_wp2
  go_ret
  exact ⟨rfl, hb.trans (hb2.mono hb.size)⟩
end Go.Proofs.Ytdiokmaomglefaa
