/- Plain: a device that holds the frames that were appended, one behind the other. -/
import Derived.Test.YtdiokmaomglefaaLRoom0
import Derived.Test.YtdiokmaomglefaaGWrite
namespace Go.Proofs.Ytdiokmaomglefaa

theorem framesFrom_same (zs : List Zn) (i k : Nat) (z z' : Zn) (hz : zs[k]? = some z) (he : zoneFs (i + k) z' = zoneFs (i + k) z) : framesFrom i (zs.set k z') = framesFrom i zs := by
  induction zs generalizing i k with
  | nil => simp at hz
  | cons y zs ih =>
    cases k with
    | zero =>
      simp at hz
      subst hz
      simp only [List.set_cons_zero, framesFrom]
      rw [show zoneFs i z' = zoneFs i y from he]
    | succ k =>
      simp only [List.set_cons_succ, framesFrom]
      rw [ih (i + 1) k (by simpa using hz) (by rw [show i + 1 + k = i + (k + 1) by omega]; exact he)]
theorem framesFrom_more (zs : List Zn) (i k : Nat) (z z' : Zn) (f : Fd) (hz : zs[k]? = some z) (he : zoneFs (i + k) z' = zoneFs (i + k) z ++ [f]) : (framesFrom i zs ++ [f]).Perm (framesFrom i (zs.set k z')) := by
  induction zs generalizing i k with
  | nil => simp at hz
  | cons y zs ih =>
    cases k with
    | zero =>
      simp at hz
      subst hz
      simp only [List.set_cons_zero, framesFrom]
      rw [show zoneFs i z' = zoneFs i y ++ [f] from he, List.append_assoc, List.append_assoc]
      exact List.Perm.append_left _ List.perm_append_comm
    | succ k =>
      simp only [List.set_cons_succ, framesFrom]
      rw [List.append_assoc]
      exact List.Perm.append_left _ (ih (i + 1) k (by simpa using hz) (by rw [show i + 1 + k = i + (k + 1) by omega]; exact he))
theorem zoneFs_til {i : Nat} {z : Zn} {l : List (Hd × Nat)} (h : Til 0 z.data l) (hs : z.st ≠ 4) : zoneFs i z = l.map fun p => ⟨p.1, i, p.2⟩ := by
  unfold zoneFs
  rw [if_neg hs, h.scanB]
/-- The device holds what was appended, in the order in which it was. -/
structure LogDev (d : Dv) (want : List Fd) : Prop where
  free : Free d
  size : d.size = 300
  len : d.zs.length = 12
  op : openN d.zs ≤ 4
  til : ∀ (t : Nat) (z : Zn), d.zs[t]? = some z → z.st ≠ 4 ∧ ∃ l, Til 0 z.data l
  perm : want.Perm (frames d.zs)
  seq : ∀ (j : Nat) (f : Fd), want[j]? = some f → f.hd.seq = j
  next : nextOf want = want.length
theorem LogDev.order {d : Dv} {want : List Fd} (h : LogDev d want) : InOrder want := by
  unfold InOrder
  rw [List.pairwise_iff_getElem]
  intro i j hi hj hij
  have h1 := h.seq i _ (List.getElem?_eq_getElem hi)
  have h2 := h.seq j _ (List.getElem?_eq_getElem hj)
  unfold fdLt
  rw [h1, h2]
  exact decide_eq_false (by omega)
theorem logDev_new : LogDev (newD 12 300) [] := by
  have hz : ∀ (t : Nat) (z : Zn), (newD 12 300).zs[t]? = some z → z = ⟨0, [], 0⟩ := by
    intro t z h
    exact List.eq_of_mem_replicate (List.mem_of_getElem? h)
  refine ⟨⟨?_, rfl, show (-1 : Int) < 0 by decide, show (-1 : Int) < 0 by decide⟩, rfl, by simp [newD], ?_, ?_, ?_, fun j f h => by simp at h, rfl⟩
  · unfold devOk
    simp only [Bool.and_eq_true, decide_eq_true_eq]
    refine ⟨⟨⟨?_, by kernel_rfl⟩, ?_⟩, show (0 : Int) < 300 ∧ (300 : Int) ≤ 65536 by decide⟩
    · rw [List.all_eq_true]
      intro z h
      rw [List.eq_of_mem_replicate h]
      show zoneOk 300 ⟨0, [], 0⟩ = true
      decide
    · simp only [newD, List.length_replicate]
      omega
  · have : openN (newD 12 300).zs = 0 := by
      unfold openN
      rw [List.countP_eq_zero]
      intro z h
      rw [List.eq_of_mem_replicate h]
      decide
    omega
  · intro t z h
    rw [hz t z h]
    exact ⟨show (0 : Int) ≠ 4 by decide, [], Til.nil 0⟩
  · have : ∀ (l : List Zn) (i : Nat), (∀ z ∈ l, z = ⟨0, [], 0⟩) → framesFrom i l = [] := by
      intro l
      induction l with
      | nil => intro i _; rfl
      | cons z l ih =>
        intro i h
        rw [h z List.mem_cons_self]
        show zoneFs i ⟨0, [], 0⟩ ++ framesFrom (i + 1) l = []
        rw [ih _ (fun y hy => h y (List.mem_cons_of_mem _ hy)), zoneFs_til (Til.nil 0) (show (0 : Int) ≠ 4 by decide)]
        rfl
    unfold frames
    rw [this (newD 12 300).zs 0 (fun z h => List.eq_of_mem_replicate h)]
/-- One frame more at the end of zone k, whatever zones were finished. -/
theorem LogDev.more {d : Dv} {want : List Fd} (h : LogDev d want) {hd : Hd} {f : List UInt8} (hr : readH f = some hd) (hl : (f.length : Int) = sizeF hd.len) (hseq : hd.seq = want.length)
    {zs1 : List Zn} (hf1 : framesFrom 0 zs1 = framesFrom 0 d.zs) (hl1 : zs1.length = 12) (ht1 : ∀ (t : Nat) (z : Zn), zs1[t]? = some z → z.st ≠ 4 ∧ ∃ l, Til 0 z.data l)
    {k : Nat} {z z' : Zn} (hz : zs1[k]? = some z) (hd' : z'.data = z.data ++ f) (hs' : z'.st ≠ 4) {dl : Dv} (hfree : Free dl) (hsz : dl.size = 300) (hzs : dl.zs = zs1.set k z') (hop : openN dl.zs ≤ 4) :
    LogDev dl (want ++ [⟨hd, k, z.data.length⟩]) := by
  obtain ⟨hs, l, ht⟩ := ht1 k z hz
  have ht' : Til 0 z'.data (l ++ [(hd, z.data.length)]) := by
    have := ht.snoc hr hl
    rw [hd']
    rwa [Nat.zero_add] at this
  have hkl := (List.getElem?_eq_some_iff.1 hz).1
  refine ⟨hfree, hsz, by rw [hzs, List.length_set]; exact hl1, hop, ?_, ?_, ?_, ?_⟩
  · intro t y hy
    rw [hzs] at hy
    by_cases e : t = k
    · subst e
      rw [List.getElem?_set_self hkl] at hy
      cases hy
      exact ⟨hs', _, ht'⟩
    · rw [List.getElem?_set_ne (fun x => e x.symm)] at hy
      exact ht1 t y hy
  · have h1 : (framesFrom 0 zs1 ++ [(⟨hd, k, z.data.length⟩ : Fd)]).Perm (framesFrom 0 (zs1.set k z')) := by
      refine framesFrom_more zs1 0 k z z' _ hz ?_
      rw [Nat.zero_add, zoneFs_til ht hs, zoneFs_til ht' hs', List.map_append]
      rfl
    rw [hf1] at h1
    unfold frames
    rw [hzs]
    exact (List.Perm.append_right _ h.perm).trans h1
  · intro j g hg
    by_cases e : j < want.length
    · rw [List.getElem?_append_left e] at hg
      exact h.seq j g hg
    · have hj := (List.getElem?_eq_some_iff.1 hg).1
      rw [List.length_append, List.length_singleton] at hj
      obtain rfl : j = want.length := by omega
      rw [List.getElem?_append_right (Nat.le_refl _), Nat.sub_self] at hg
      cases hg
      exact hseq
  · have hn := h.next
    unfold nextOf at hn ⊢
    rw [List.foldl_append, hn, List.length_append]
    show max (want.length : Int) (hd.seq + 1) = _
    rw [hseq]
    simp only [List.length_singleton]
    omega
theorem finds_step {d : Dv} {want : List Fd} (h : LogDev d want) {hd : Hd} {f : List UInt8} (hr : readH f = some hd) (hl : (f.length : Int) = sizeF hd.len) (hlen : f.length ≤ 100) (hlen1 : 0 < f.length) (hseq : hd.seq = want.length)
    {dl : Dv} {zr ar er : Int} {nd : Nat} (hA : App d f dl zr ar nd er) :
    (er = 160 ∧ emptyN d.zs = 0) ∨ (er = 0 ∧ (nd = 1 ∨ nd = 2) ∧ ∃ (j p : Nat) (z : Zn), zr = j ∧ ar = p ∧ LogDev dl (want ++ [⟨hd, j, p⟩]) ∧ dl.zs[j]? = some z ∧ z.st ≠ 4 ∧ p + f.length ≤ z.data.length ∧ (z.data.drop p).take f.length = f) := by
  have hst : ∀ z, (grow 300 z f).st ≠ 4 := by
    intro z
    unfold grow filled
    simp only
    split
    · omega
    · split <;> omega
  have hgo : ∀ (z : Zn), (if (grow 300 z f).st = 1 then 1 else 0) ≤ 1 := by intro z; split <;> omega
  unfold App at hA
  rw [h.size] at hA
  have hop := h.op
  have key : ∀ (zs1 : List Zn) (k : Nat) (z : Zn) (dl : Dv), framesFrom 0 zs1 = framesFrom 0 d.zs → zs1.length = 12 → (∀ (t : Nat) (z : Zn), zs1[t]? = some z → z.st ≠ 4 ∧ ∃ l, Til 0 z.data l) → zs1[k]? = some z →
      Free dl → dl.size = 300 → dl.zs = zs1.set k (grow 300 z f) → openN dl.zs ≤ 4 →
      ∃ (j p : Nat) (z' : Zn), (k : Int) = j ∧ (z.data.length : Int) = p ∧ LogDev dl (want ++ [⟨hd, j, p⟩]) ∧ dl.zs[j]? = some z' ∧ z'.st ≠ 4 ∧ p + f.length ≤ z'.data.length ∧ (z'.data.drop p).take f.length = f := by
    intro zs1 k z dl h1 h2 h3 h4 h5 h6 h7 h8
    refine ⟨k, z.data.length, grow 300 z f, rfl, rfl, h.more hr hl hseq h1 h2 h3 h4 (z' := grow 300 z f) rfl (hst z) h5 h6 h7 h8, ?_, hst z, ?_, ?_⟩
    · rw [h7, List.getElem?_set_self (List.getElem?_eq_some_iff.1 h4).1]
    · show z.data.length + f.length ≤ (z.data ++ f).length
      rw [List.length_append]
      omega
    · show ((z.data ++ f).drop z.data.length).take f.length = f
      rw [List.drop_left, List.take_length]
  rcases hA with hA | ⟨hle, ⟨h1, h0, h2, _, _, _, h6⟩ | ⟨j, z, _, hz, hp, h2, h3, h4, h5, h6⟩ | ⟨k, z, _, _, hz, hp, hA⟩⟩
  · omega
  · refine .inl ⟨h6, ?_⟩
    unfold emptyN
    rw [List.countP_eq_zero]
    intro z hz hz0
    have hz0' : z.st = 0 := of_decide_eq_true hz0
    obtain ⟨t, ht⟩ := List.getElem?_of_mem hz
    have h9 := devOk_zone h.free.ok ht
    unfold zoneOk at h9
    simp only [Bool.and_eq_true, Bool.not_eq_true', decide_eq_false_iff_not, decide_eq_true_eq] at h9
    have := idxOf_some (firstP 300 0 f.length) d.zs hz (firstP_yes ⟨hz0', by omega⟩)
    omega
  · obtain ⟨hs1, hroom⟩ := firstP_is hp
    refine .inr ⟨h6, .inl h5, ?_⟩
    rw [h3, h4]
    refine key d.zs j z dl rfl h.len h.til hz ?_ ?_ ?_ ?_
    · rw [h2]
      exact h.free.setZ j (by rw [h.size]; exact zoneOk_grow (by rw [← h.size]; exact devOk_zone h.free.ok hz) hlen1 hroom)
    · rw [h2]; exact h.size
    · rw [h2]; rfl
    · rw [h2]
      have := open_set d.zs j z (grow 300 z f) hz
      rw [if_pos hs1] at this
      have := hgo z
      show openN (d.zs.set j (grow 300 z f)) ≤ 4
      omega
  · obtain ⟨hs1, hroom⟩ := firstP_is hp
    have hz0 : z.data.length = 0 := by
      have h9 := devOk_zone h.free.ok hz
      unfold zoneOk at h9
      simp only [Bool.and_eq_true, Bool.not_eq_true', decide_eq_false_iff_not, decide_eq_true_eq] at h9
      omega
    have hzI : (0 : Int) = (z.data.length : Int) := by omega
    rcases hA with ⟨ho, h2, h3, h4, h5, h6⟩ | ⟨ho, i, y, hy, hy1, hik, ⟨ho2, h2, h3, h4, h5, h6⟩ | ⟨ho2, h2, h3⟩⟩
    · refine .inr ⟨h6, .inl h5, ?_⟩
      rw [h3, h4, hzI]
      refine key d.zs k z dl rfl h.len h.til hz ?_ ?_ ?_ ?_
      · rw [h2]
        exact h.free.setZ k (by rw [h.size]; exact zoneOk_grow (by rw [← h.size]; exact devOk_zone h.free.ok hz) hlen1 hroom)
      · rw [h2]; exact h.size
      · rw [h2]; rfl
      · rw [h2]
        have := open_set d.zs k z (grow 300 z f) hz
        rw [if_neg (by omega)] at this
        have := hgo z
        show openN (d.zs.set k (grow 300 z f)) ≤ 4
        omega
    · refine .inr ⟨h6, .inr h5, ?_⟩
      have hiy := (List.getElem?_eq_some_iff.1 hy).1
      have hz2 : (d.zs.set i (finish y))[k]? = some z := by rw [List.getElem?_set_ne hik]; exact hz
      obtain ⟨_, ly, hly⟩ := h.til i y hy
      have fr1 : Free (setZ (tick d) i (finish y)) := h.free.setZ i (zoneOk_finish (devOk_zone h.free.ok hy))
      rw [h3, h4, hzI]
      refine key (d.zs.set i (finish y)) k z dl ?_ (by rw [List.length_set]; exact h.len) ?_ hz2 ?_ ?_ ?_ ?_
      · refine framesFrom_same d.zs 0 i y (finish y) hy ?_
        rw [Nat.zero_add, zoneFs_til (z := finish y) hly (show (2 : Int) ≠ 4 by decide), zoneFs_til hly (by omega)]
      · intro t x hx
        by_cases e : t = i
        · subst e
          rw [List.getElem?_set_self hiy] at hx
          cases hx
          exact ⟨show (2 : Int) ≠ 4 by decide, ly, hly⟩
        · rw [List.getElem?_set_ne (fun q => e q.symm)] at hx
          exact h.til t x hx
      · rw [h2]
        exact fr1.setZ k (by rw [show (setZ (tick d) i (finish y)).size = 300 from h.size]; exact zoneOk_grow (by rw [← h.size]; exact devOk_zone h.free.ok hz) hlen1 hroom)
      · rw [h2]; exact h.size
      · rw [h2]; rfl
      · rw [h2]
        have h7 := open_finish d.zs i y hy hy1
        have := open_set (d.zs.set i (finish y)) k z (grow 300 z f) hz2
        rw [if_neg (by omega)] at this
        have := hgo z
        show openN ((d.zs.set i (finish y)).set k (grow 300 z f)) ≤ 4
        omega
    · have h7 := open_finish d.zs i y hy hy1
      omega
/-- A head of the log's own kind may be, and its bytes are read again. -/
theorem log_head (n e : Int) (i : Nat) (hn1 : 1 ≤ n) (hn2 : n ≤ 60) (he1 : 0 ≤ e) (he2 : e ≤ 9) (hi : i ≤ 30) (x : List UInt8) : hdOk ⟨3, 0, n, i, e⟩ = true ∧ readH (hdW ⟨3, 0, n, i, e⟩ ++ x) = some ⟨3, 0, n, i, e⟩ := by
  have h : hdOk ⟨3, 0, n, i, e⟩ = true := by
    unfold hdOk
    simp only [Bool.and_eq_true, decide_eq_true_eq, show ¬ (3 : Int) = 1 by decide, if_false]
    omega
  refine ⟨h, read_write ?_ x⟩
  unfold writeH
  rw [if_pos h]
  rfl
end Go.Proofs.Ytdiokmaomglefaa
