/- Plain: what an append leaves, and where there is room. -/
import Derived.Test.YtdiokmaomglefaaLFill
namespace Go.Proofs.Ytdiokmaomglefaa

/-- Zone j has b more; all other bytes are as they were. -/
def Grew (zs zs' : List Zn) (j : Nat) (b : List UInt8) : Prop := zs'.length = zs.length ∧ ∀ (t : Nat) (z : Zn), zs[t]? = some z → ∃ z', zs'[t]? = some z' ∧ z'.data = if t = j then z.data ++ b else z.data
def hasRoom (size n : Int) (z : Zn) : Bool := decide (z.st ≤ 1) && decide (n ≤ size - (z.data.length : Int))
def room (d : Dv) (n : Int) : Bool := d.zs.any (hasRoom d.size n)
theorem grew_set (zs : List Zn) (j : Nat) (z z' : Zn) (b : List UInt8) (hz : zs[j]? = some z) (hd : z'.data = z.data ++ b) : Grew zs (zs.set j z') j b := by
  have hj := (List.getElem?_eq_some_iff.1 hz).1
  refine ⟨by rw [List.length_set], fun t y hy => ?_⟩
  by_cases e : t = j
  · subst e
    rw [hz] at hy
    cases hy
    exact ⟨z', by rw [List.getElem?_set_self hj], by rw [if_pos rfl, hd]⟩
  · exact ⟨y, by rw [List.getElem?_set_ne (fun h => e h.symm)]; exact hy, by rw [if_neg e]⟩
theorem grew_fin (zs : List Zn) (i j : Nat) (y z z' : Zn) (b : List UInt8) (hij : i ≠ j) (hy : zs[i]? = some y) (hz : zs[j]? = some z) (hd : z'.data = z.data ++ b) : Grew zs ((zs.set i (finish y)).set j z') j b := by
  have hi := (List.getElem?_eq_some_iff.1 hy).1
  have hz2 : (zs.set i (finish y))[j]? = some z := by rw [List.getElem?_set_ne hij]; exact hz
  obtain ⟨h1, h2⟩ := grew_set (zs.set i (finish y)) j z z' b hz2 hd
  refine ⟨by rw [h1, List.length_set], fun t x hx => ?_⟩
  by_cases e : t = i
  · subst e
    rw [hy] at hx
    cases hx
    obtain ⟨x', h3, h4⟩ := h2 t (finish y) (by rw [List.getElem?_set_self hi])
    exact ⟨x', h3, h4⟩
  · exact h2 t x (by rw [List.getElem?_set_ne (fun h => e h.symm)]; exact hx)
theorem room_of {d : Dv} {n : Int} {j : Nat} {z : Zn} (hz : d.zs[j]? = some z) (h : hasRoom d.size n z = true) : room d n = true := by
  unfold room
  rw [List.any_eq_true]
  exact ⟨z, List.mem_of_getElem? hz, h⟩
theorem room_no {d : Dv} {n : Int} (h : ∀ z ∈ d.zs, hasRoom d.size n z = false) : room d n = false := by
  unfold room
  rw [List.any_eq_false]
  intro z hz
  rw [h z hz]
  decide
theorem app_room {d : Dv} {b : List UInt8} {dl : Dv} {zr ar er : Int} {nd : Nat} (hok : devOk d = true) (hA : App d b dl zr ar nd er) :
    (er = 0 ∧ room d b.length = true ∧ (openN d.zs ≤ 4 ∨ nd = 1) ∧ ∃ (j : Nat) (z : Zn), zr = j ∧ d.zs[j]? = some z ∧ ar = z.data.length ∧ Grew d.zs dl.zs j b) ∨
    ((er = 1 ∨ er = 160) ∧ room d b.length = false ∧ dl = d) ∨
    (room d b.length = true ∧ 4 < openN d.zs ∧ ((er = 0 ∧ nd = 2) ∨ (er = 90 ∧ nd = 1)) ∧ dl.zs.length = d.zs.length) := by
  have hroom : ∀ {st : Int} {j : Nat} {z : Zn}, st ≤ 1 → d.zs[j]? = some z → firstP d.size st b.length z = true → room d b.length = true := by
    intro st j z hst hz hp
    obtain ⟨h1, h2⟩ := firstP_is hp
    refine room_of hz ?_
    unfold hasRoom
    rw [decide_eq_true (by omega), decide_eq_true h2]
    rfl
  have hst : ∀ z ∈ d.zs, z.st ≤ 1 → z.st = 0 ∨ z.st = 1 := by
    intro z hz h1
    unfold devOk at hok
    simp only [Bool.and_eq_true] at hok
    have h2 := List.all_eq_true.1 hok.1.1.1 z hz
    unfold zoneOk at h2
    simp only [Bool.and_eq_true, Bool.not_eq_true', decide_eq_false_iff_not, decide_eq_true_eq] at h2
    omega
  unfold App at hA
  rcases hA with ⟨h1, h2, _, _, _, h6⟩ | ⟨hle, ⟨h1, h0, h2, _, _, _, h6⟩ | ⟨j, z, _, hz, hp, h2, h3, h4, h5, h6⟩ | ⟨k, z, _, _, hz, hp, h⟩⟩
  · refine .inr (.inl ⟨.inl h6, room_no (fun z hz => ?_), h2⟩)
    unfold hasRoom
    rw [decide_eq_false (show ¬ ((b.length : Int) ≤ d.size - (z.data.length : Int)) by omega)]
    simp
  · refine .inr (.inl ⟨.inr h6, room_no (fun z hz => ?_), h2⟩)
    cases hc : hasRoom d.size b.length z with
    | false => rfl
    | true =>
      unfold hasRoom at hc
      simp only [Bool.and_eq_true, decide_eq_true_eq] at hc
      rcases hst z hz hc.1 with h | h
      · have := idxOf_some (firstP d.size 0 b.length) d.zs hz (firstP_yes ⟨h, hc.2⟩)
        omega
      · have := idxOf_some (firstP d.size 1 b.length) d.zs hz (firstP_yes ⟨h, hc.2⟩)
        omega
  · refine .inl ⟨h6, hroom (by omega) hz hp, .inr h5, j, z, h3, hz, h4, ?_⟩
    rw [h2]
    exact grew_set d.zs j z _ b hz rfl
  · have hd0 : z.data.length = 0 := by
      obtain ⟨hs, _⟩ := firstP_is hp
      have h9 := devOk_zone hok hz
      unfold zoneOk at h9
      simp only [Bool.and_eq_true, Bool.not_eq_true', decide_eq_false_iff_not, decide_eq_true_eq] at h9
      omega
    rcases h with ⟨ho, h2, h3, h4, h5, h6⟩ | ⟨ho, i, y, hy, hy1, hik, ⟨ho2, h2, h3, h4, h5, h6⟩ | ⟨ho2, h2, h3⟩⟩
    · refine .inl ⟨h6, hroom (by omega) hz hp, .inr h5, k, z, h3, hz, by omega, ?_⟩
      rw [h2]
      exact grew_set d.zs k z _ b hz rfl
    · have h7 := open_finish d.zs i y hy hy1
      refine .inl ⟨h6, hroom (by omega) hz hp, .inl (by omega), k, z, h3, hz, by omega, ?_⟩
      rw [h2]
      exact grew_fin d.zs i k y z _ b hik hy hz rfl
    · have h7 := open_finish d.zs i y hy hy1
      refine .inr (.inr ⟨hroom (by omega) hz hp, by omega, ?_, ?_⟩)
      · rcases h3 with ⟨h3, _, _, h4⟩ | ⟨h3, _, _, h4⟩
        · exact .inl ⟨h3, h4⟩
        · exact .inr ⟨h3, h4⟩
      · rw [h2]
        show (d.zs.set i (finish y)).length = d.zs.length
        rw [List.length_set]
end Go.Proofs.Ytdiokmaomglefaa
