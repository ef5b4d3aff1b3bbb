/- Plain: a device that is filled by pieces of one size. -/
import Derived.Test.YtdiokmaomglefaaLApp
import Derived.Test.YtdiokmaomglefaaMC
namespace Go.Proofs.Ytdiokmaomglefaa

/-- Zones below i are full, zone i has c pieces of k bytes, all others are empty. -/
structure Fill (Z k i c : Nat) (d : Dv) : Prop where
  free : Free d
  size : d.size = 200
  len : d.zs.length = Z
  low : ∀ (t : Nat) (z : Zn), t < i → d.zs[t]? = some z → z.data.length = k * (200 / k) ∧ (z.st = 1 ∨ z.st = 2)
  mid : ∀ (z : Zn), d.zs[i]? = some z → 0 < c → z.st = 1 ∧ z.data.length = k * c
  high : ∀ (t : Nat) (z : Zn), d.zs[t]? = some z → i < t ∨ t = i ∧ c = 0 → z.st = 0 ∧ z.data.length = 0
  op : openN d.zs ≤ 4
  cq : c < 200 / k
  iz : i ≤ Z
  ic : i = Z → c = 0
theorem idxOf_nowhere (p : Zn → Bool) (zs : List Zn) (h : ∀ (j : Nat) (z : Zn), zs[j]? = some z → p z = false) : idxOf p zs = -1 := by
  by_cases h0 : 0 ≤ idxOf p zs
  · obtain ⟨j, z, _, hz, hp, _⟩ := idxOf_ge p zs h0
    rw [h j z hz] at hp
    cases hp
  · exact idxOf_neg _ _ h0
theorem firstP_no {size st n : Int} {z : Zn} (h : ¬ (z.st = st ∧ n ≤ size - (z.data.length : Int))) : firstP size st n z = false := by
  unfold firstP
  exact decide_eq_false h
theorem firstP_yes {size st n : Int} {z : Zn} (h : z.st = st ∧ n ≤ size - (z.data.length : Int)) : firstP size st n z = true := by
  unfold firstP
  exact decide_eq_true h
theorem open_set (zs : List Zn) (i : Nat) (y x : Zn) (h : zs[i]? = some y) : openN (zs.set i x) + (if y.st = 1 then 1 else 0) = openN zs + (if x.st = 1 then 1 else 0) := by
  unfold openN
  induction zs generalizing i with
  | nil => simp at h
  | cons z zs ih =>
    cases i with
    | zero =>
      simp at h
      subst h
      simp only [List.set_cons_zero, List.countP_cons, decide_eq_true_eq]
      omega
    | succ i =>
      have := ih i (by simpa using h)
      simp only [List.set_cons_succ, List.countP_cons]
      omega
theorem new_fill (Z k : Nat) (hZ : 1 ≤ Z) (hZ2 : Z ≤ 10) (hk1 : 1 ≤ k) (hk2 : k ≤ 100) : Fill Z k 0 0 (newD Z 200) := by
  have hq : 1 < 200 / k := by rw [Nat.lt_div_iff_mul_lt (by omega)]; omega
  have hz : ∀ (t : Nat) (z : Zn), (newD Z 200).zs[t]? = some z → z = ⟨0, [], 0⟩ := by
    intro t z h
    have := List.mem_of_getElem? h
    exact List.eq_of_mem_replicate this
  refine ⟨⟨?_, rfl, show (-1 : Int) < 0 by decide, show (-1 : Int) < 0 by decide⟩, rfl, by simp [newD], by omega, by omega, fun t z h _ => by rw [hz t z h]; exact ⟨rfl, rfl⟩, ?_, by omega, by omega, fun _ => rfl⟩
  · unfold devOk
    simp only [Bool.and_eq_true, decide_eq_true_eq]
    refine ⟨⟨⟨?_, by kernel_rfl⟩, ?_⟩, show (0 : Int) < 200 ∧ (200 : Int) ≤ 65536 by decide⟩
    · rw [List.all_eq_true]
      intro z h
      rw [List.eq_of_mem_replicate h]
      show zoneOk 200 ⟨0, [], 0⟩ = true
      decide
    · simp only [newD, List.length_replicate]
      omega
  · have : openN (newD Z 200).zs = 0 := by
      unfold openN
      rw [List.countP_eq_zero]
      intro z h
      rw [List.eq_of_mem_replicate h]
      decide
    omega
theorem fill_step (Z k i c : Nat) (d : Dv) (h : Fill Z k i c d) (hk1 : 1 ≤ k) (hk2 : k ≤ 100) (b : List UInt8) (hb : b.length = k) {dl : Dv} {zr ar er : Int} {nd : Nat} (hA : App d b dl zr ar nd er) :
    (i < Z → er = 0 ∧ ∃ i' c', i' * (200 / k) + c' = i * (200 / k) + c + 1 ∧ Fill Z k i' c' dl) ∧ (i = Z → er = 160 ∧ dl = d) := by
  have hq1 : k * (200 / k) ≤ 200 := Nat.mul_div_le _ _
  have hq2 : 200 < k * (200 / k) + k := by
    have := Nat.lt_mul_div_succ 200 (show 0 < k by omega)
    rw [Nat.mul_add, Nat.mul_one] at this
    exact this
  obtain ⟨q, hq⟩ : ∃ q, 200 / k = q := ⟨_, rfl⟩
  obtain ⟨free, size, len, low, mid, high, op, cq, iz, ic⟩ := h
  rw [hq] at low cq hq1 hq2 ⊢
  have hq3 : 2 ≤ q := by
    rcases Nat.lt_or_ge q 2 with h | h
    · have : k * q ≤ k * 1 := Nat.mul_le_mul_left k (by omega)
      omega
    · exact h
  have hlb : ((b.length : Nat) : Int) = (k : Int) := by omega
  have hkc : k * (c + 1) ≤ k * q := Nat.mul_le_mul_left k (by omega)
  have hkc2 : k * (c + 1) = k * c + k := by rw [Nat.mul_add, Nat.mul_one]
  -- zones that are no place for k more
  have nolow : ∀ (t : Nat) (z : Zn), t < i → d.zs[t]? = some z → firstP d.size 1 k z = false := fun t z ht hz => by
    obtain ⟨h1, _⟩ := low t z ht hz
    exact firstP_no (by rw [size]; omega)
  have nohigh : ∀ (t : Nat) (z : Zn), d.zs[t]? = some z → i < t ∨ t = i ∧ c = 0 → firstP d.size 1 k z = false := fun t z hz ht => by
    obtain ⟨h1, _⟩ := high t z hz ht
    exact firstP_no (by rw [h1]; omega)
  have no0 : ∀ (t : Nat) (z : Zn), t < i → d.zs[t]? = some z → firstP d.size 0 k z = false := fun t z ht hz => by
    obtain ⟨_, h1⟩ := low t z ht hz
    exact firstP_no (by omega)
  unfold App at hA
  rw [hlb] at hA
  constructor
  · intro hiZ
    have hzi : d.zs[i]? = some d.zs[i] := List.getElem?_eq_getElem (by omega)
    generalize d.zs[i] = zi at hzi
    have next : ∀ (zs' : List Zn) (z' : Zn), z'.data.length = k * (c + 1) → z'.st = (if k * (c + 1) = 200 then 2 else 1) →
        (∀ (t : Nat) (z : Zn), t < i → zs'[t]? = some z → z.data.length = k * q ∧ (z.st = 1 ∨ z.st = 2)) → zs'[i]? = some z' → zs'.length = Z →
        (∀ (t : Nat) (z : Zn), zs'[t]? = some z → i < t → z.st = 0 ∧ z.data.length = 0) → openN zs' ≤ 4 → ∀ (dl : Dv), Free dl → dl.size = 200 → dl.zs = zs' →
        ∃ i' c', i' * q + c' = i * q + c + 1 ∧ Fill Z k i' c' dl := by
      intro zs' z' hl hs hlow hz' hlen hhigh hop dl hf hsz hzs
      by_cases hc : c + 1 = q
      · refine ⟨i + 1, 0, by rw [Nat.add_mul]; omega, hf, hsz, by rw [hzs]; exact hlen, ?_, fun _ _ h => by omega, ?_, by rw [hzs]; exact hop, by rw [hq]; omega, by omega, fun _ => rfl⟩
        · intro t z ht hz
          rw [hzs] at hz
          rw [hq]
          rcases Nat.lt_or_ge t i with h | h
          · exact hlow t z h hz
          · obtain rfl : t = i := by omega
            rw [hz'] at hz
            cases hz
            refine ⟨by rw [hl, hc], ?_⟩
            rw [hs]
            split <;> simp
        · intro t z hz ht
          rw [hzs] at hz
          exact hhigh t z hz (by omega)
      · have hlt : k * (c + 1) < 200 := by
          have : k * (c + 1 + 1) ≤ k * q := Nat.mul_le_mul_left k (by omega)
          rw [Nat.mul_add k (c + 1) 1, Nat.mul_one] at this
          omega
        refine ⟨i, c + 1, by omega, hf, hsz, by rw [hzs]; exact hlen, fun t z ht hz => by rw [hzs] at hz; rw [hq]; exact hlow t z ht hz, ?_, ?_, by rw [hzs]; exact hop, by rw [hq]; omega, iz, fun e => by omega⟩
        · intro z hz _
          rw [hzs, hz'] at hz
          cases hz
          refine ⟨?_, hl⟩
          rw [hs, if_neg (by omega)]
        · intro t z hz ht
          rw [hzs] at hz
          exact hhigh t z hz (by omega)
    have hgr : ∀ (z : Zn), z.data.length = k * c → (grow 200 z b).data.length = k * (c + 1) ∧ (grow 200 z b).st = (if k * (c + 1) = 200 then 2 else 1) := by
      intro z hz
      have h1 : (z.data ++ b).length = k * (c + 1) := by rw [List.length_append, hz, hb, hkc2]
      refine ⟨h1, ?_⟩
      unfold grow filled
      simp only [h1]
      rw [if_neg (by omega)]
      split <;> split <;> omega
    by_cases hc0 : c = 0
    · subst hc0
      have h1 : idxOf (firstP d.size 1 k) d.zs = -1 := idxOf_nowhere _ _ (fun t z hz => by
        rcases Nat.lt_or_ge t i with h | h
        · exact nolow t z h hz
        · exact nohigh t z hz (by omega))
      obtain ⟨hzs0, hzl0⟩ := high i zi hzi (.inr ⟨rfl, rfl⟩)
      have h0 : idxOf (firstP d.size 0 k) d.zs = (i : Nat) := idxOf_hit _ _ i zi hzi (firstP_yes ⟨hzs0, by rw [size]; omega⟩) (fun t z ht hz => no0 t z ht hz)
      rw [h1, h0] at hA
      have hkz : zi.data.length = k * 0 := by omega
      have hroom : (b.length : Int) ≤ d.size - (zi.data.length : Int) := by rw [size]; omega
      rcases hA with hA | ⟨_, hA | ⟨j, z, hA, _⟩ | ⟨j, z, _, hj, hz, _, hA⟩⟩
      · rw [size] at hA; omega
      · omega
      · omega
      · obtain rfl : j = i := by omega
        rw [hzi] at hz
        cases hz
        rcases hA with ⟨ho, h2, _, _, _, h5⟩ | ⟨ho, t, y, hy, hy1, hti, ⟨ho2, h2, _, _, _, h5⟩ | ⟨ho2, _⟩⟩
        · refine ⟨h5, ?_⟩
          subst h2
          rw [size]
          obtain ⟨g1, g2⟩ := hgr zi hkz
          refine next (d.zs.set j (grow 200 zi b)) _ g1 g2 ?_ (by rw [List.getElem?_set_self (by omega)]) (by rw [List.length_set]; exact len) ?_ ?_ _ (free.setZ j (by rw [← size]; exact zoneOk_grow (devOk_zone free.ok hzi) (by omega) hroom)) size rfl
          · intro t z ht hz
            rw [List.getElem?_set_ne (by omega)] at hz
            exact low t z ht hz
          · intro t z hz ht
            rw [List.getElem?_set_ne (by omega)] at hz
            exact high t z hz (.inl ht)
          · have := open_set d.zs j zi (grow 200 zi b) hzi
            rw [hzs0] at this
            simp only [show ¬ (0 : Int) = 1 by decide, if_false] at this
            split at this <;> omega
        · refine ⟨h5, ?_⟩
          subst h2
          rw [size]
          obtain ⟨g1, g2⟩ := hgr zi hkz
          have htl : t < j := by
            rcases Nat.lt_or_ge t j with h | h
            · exact h
            · have := (high t y hy (by omega)).1
              omega
          have hz2 : (setZ (tick d) t (finish y)).zs[j]? = some zi := by
            show (d.zs.set t (finish y))[j]? = some zi
            rw [List.getElem?_set_ne (by omega)]
            exact hzi
          have fr1 : Free (setZ (tick d) t (finish y)) := free.setZ t (zoneOk_finish (devOk_zone free.ok hy))
          refine next ((d.zs.set t (finish y)).set j (grow 200 zi b)) _ g1 g2 ?_ (by rw [List.getElem?_set_self (by rw [List.length_set]; omega)]) (by rw [List.length_set, List.length_set]; exact len) ?_ ?_ _ (fr1.setZ j (by rw [← size]; exact zoneOk_grow (devOk_zone fr1.ok hz2) (by omega) hroom)) size rfl
          · intro s z hs hz
            rw [List.getElem?_set_ne (by omega)] at hz
            by_cases hst : s = t
            · subst hst
              rw [List.getElem?_set_self (by omega)] at hz
              cases hz
              exact ⟨(low s y htl hy).1, .inr rfl⟩
            · rw [List.getElem?_set_ne (fun e => hst e.symm)] at hz
              exact low s z hs hz
          · intro s z hz hs
            rw [List.getElem?_set_ne (by omega), List.getElem?_set_ne (by omega)] at hz
            exact high s z hz (.inl hs)
          · have h3 := open_finish d.zs t y hy hy1
            have h4 := open_set (d.zs.set t (finish y)) j zi (grow 200 zi b) hz2
            rw [hzs0] at h4
            simp only [show ¬ (0 : Int) = 1 by decide, if_false] at h4
            split at h4 <;> omega
        · have h3 := open_finish d.zs t y hy hy1
          omega
    · obtain ⟨hzs1, hzl1⟩ := mid zi hzi (by omega)
      have hroom : (b.length : Int) ≤ d.size - (zi.data.length : Int) := by rw [size]; omega
      have h1 : idxOf (firstP d.size 1 k) d.zs = (i : Nat) := idxOf_hit _ _ i zi hzi (firstP_yes ⟨hzs1, by rw [← hlb]; exact hroom⟩) (fun t z ht hz => nolow t z ht hz)
      rw [h1] at hA
      rcases hA with hA | ⟨_, hA | ⟨j, z, hj, hz, _, h2, _, _, _, h5⟩ | ⟨j, z, hA, _⟩⟩
      · rw [size] at hA; omega
      · omega
      · obtain rfl : j = i := by omega
        rw [hzi] at hz
        cases hz
        refine ⟨h5, ?_⟩
        subst h2
        rw [size]
        obtain ⟨g1, g2⟩ := hgr zi hzl1
        refine next (d.zs.set j (grow 200 zi b)) _ g1 g2 ?_ (by rw [List.getElem?_set_self (by omega)]) (by rw [List.length_set]; exact len) ?_ ?_ _ (free.setZ j (by rw [← size]; exact zoneOk_grow (devOk_zone free.ok hzi) (by omega) hroom)) size rfl
        · intro t z ht hz
          rw [List.getElem?_set_ne (by omega)] at hz
          exact low t z ht hz
        · intro t z hz ht
          rw [List.getElem?_set_ne (by omega)] at hz
          exact high t z hz (.inl ht)
        · have := open_set d.zs j zi (grow 200 zi b) hzi
          rw [if_pos hzs1] at this
          split at this <;> omega
      · omega
  · rintro rfl
    have hc0 := ic rfl
    have h1 : idxOf (firstP d.size 1 k) d.zs = -1 := idxOf_nowhere _ _ (fun t z hz => nolow t z (by rw [← len]; exact (List.getElem?_eq_some_iff.1 hz).1) hz)
    have h0 : idxOf (firstP d.size 0 k) d.zs = -1 := idxOf_nowhere _ _ (fun t z hz => no0 t z (by rw [← len]; exact (List.getElem?_eq_some_iff.1 hz).1) hz)
    rw [h1, h0] at hA
    rcases hA with hA | ⟨_, hA | ⟨j, z, hA, _⟩ | ⟨j, z, _, hA, _⟩⟩
    · rw [size] at hA; omega
    · exact ⟨hA.2.2.2.2.2.2, hA.2.2.1⟩
    · omega
    · omega
theorem fill_empty (Z k : Nat) (d : Dv) (h : Fill Z k Z 0 d) : emptyN d.zs = 0 := by
  unfold emptyN
  rw [List.countP_eq_zero]
  intro z hz
  obtain ⟨t, ht⟩ := List.getElem?_of_mem hz
  have := (h.low t z (by rw [← h.len]; exact (List.getElem?_eq_some_iff.1 ht).1) ht).2
  simp only [decide_eq_true_eq]
  omega
theorem fill_reset (Z k : Nat) (hZ : 1 ≤ Z) (d : Dv) (h : Fill Z k Z 0 d) (hk1 : 1 ≤ k) (hk2 : k ≤ 100) (b : List UInt8) (hb : b.length = k) :
    (∃ z, d.zs[Z - 1]? = some z ∧ (z.st = 0 ∨ z.st = 1 ∨ z.st = 2)) ∧ Free (setZ (tick d) (Z - 1) ⟨0, [], 0⟩) ∧
      ∀ (dl : Dv) (zr ar er : Int) (nd : Nat), App (setZ (tick d) (Z - 1) ⟨0, [], 0⟩) b dl zr ar nd er → er = 0 ∧ zr = ((Z - 1 : Nat) : Int) := by
  have hq2 : 200 < k * (200 / k) + k := by
    have := Nat.lt_mul_div_succ 200 (show 0 < k by omega)
    rw [Nat.mul_add, Nat.mul_one] at this
    exact this
  have hzl : Z - 1 < d.zs.length := by rw [h.len]; omega
  have hz : d.zs[Z - 1]? = some d.zs[Z - 1] := List.getElem?_eq_getElem hzl
  generalize d.zs[Z - 1] = z at hz
  have hlow := h.low (Z - 1) z (by omega) hz
  refine ⟨⟨z, hz, by omega⟩, h.free.setZ _ (zoneOk_empty (devOk_zone h.free.ok hz)), ?_⟩
  intro dl zr ar er nd hA
  have hlb : ((b.length : Nat) : Int) = (k : Int) := by omega
  have hs : (setZ (tick d) (Z - 1) ⟨0, [], 0⟩).size = 200 := h.size
  have hzs : (setZ (tick d) (Z - 1) ⟨0, [], 0⟩).zs = d.zs.set (Z - 1) ⟨0, [], 0⟩ := rfl
  have hor := open_set d.zs (Z - 1) z ⟨0, [], 0⟩ hz
  have hop := h.op
  unfold App at hA
  rw [hlb, hs, hzs] at hA
  have hat : ∀ (t : Nat) (y : Zn), (d.zs.set (Z - 1) ⟨0, [], 0⟩)[t]? = some y → t = Z - 1 ∧ y = ⟨0, [], 0⟩ ∨ t < Z - 1 ∧ y.data.length = k * (200 / k) ∧ (y.st = 1 ∨ y.st = 2) := by
    intro t y hy
    by_cases e : t = Z - 1
    · subst e
      rw [List.getElem?_set_self hzl] at hy
      cases hy
      exact .inl ⟨rfl, rfl⟩
    · have hl := (List.getElem?_eq_some_iff.1 hy).1
      rw [List.length_set, h.len] at hl
      rw [List.getElem?_set_ne (fun x => e x.symm)] at hy
      exact .inr ⟨by omega, h.low t y (by omega) hy⟩
  have h1 : idxOf (firstP 200 1 k) (d.zs.set (Z - 1) ⟨0, [], 0⟩) = -1 := idxOf_nowhere _ _ (fun t y hy => by
    rcases hat t y hy with ⟨_, rfl⟩ | ⟨_, h2, _⟩
    · exact firstP_no (by simp)
    · exact firstP_no (by omega))
  have h0 : idxOf (firstP 200 0 k) (d.zs.set (Z - 1) ⟨0, [], 0⟩) = (Z - 1 : Nat) := idxOf_hit _ _ (Z - 1) ⟨0, [], 0⟩ (by rw [List.getElem?_set_self hzl]) (firstP_yes ⟨rfl, by simp; omega⟩) (fun t y ht hy => by
    rcases hat t y hy with ⟨e, _⟩ | ⟨_, _, h3⟩
    · omega
    · exact firstP_no (by omega))
  rw [h1, h0] at hA
  rcases hA with hA | ⟨_, hA | ⟨j, y, hA, _⟩ | ⟨j, y, _, hj, _, _, hA⟩⟩
  · omega
  · omega
  · omega
  · obtain rfl : j = Z - 1 := by omega
    rcases hA with ⟨_, _, h2, _, _, h5⟩ | ⟨ho, t, x, hx, hx1, hti, ⟨ho2, _, h3, _, _, h5⟩ | ⟨ho2, _⟩⟩
    · exact ⟨h5, h2⟩
    · exact ⟨h5, h3⟩
    · have h3 := open_finish _ t x hx hx1
      simp only [show ¬ (0 : Int) = 1 by decide, if_false] at hor
      split at hor <;> omega
end Go.Proofs.Ytdiokmaomglefaa
