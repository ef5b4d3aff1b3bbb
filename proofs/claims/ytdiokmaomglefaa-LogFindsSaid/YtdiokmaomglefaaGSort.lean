/- slices.SortFunc over frames: a row of them, in order. -/
import Derived.Test.YtdiokmaomglefaaShelfS
import Derived.Test.YtdiokmaomglefaaMX
import Derived.Shelf.SlSortCmp.NoneTotal
namespace Go.Proofs.Ytdiokmaomglefaa
open Go Go.RowKit Go.Shelf
open Go.Sort hiding Below

instance : Inhabited Fd := ⟨⟨hd0, 0, 0⟩⟩
theorem lt_of : Go.Proofs.ltOf fdCmp = fdLt := by
  funext x y
  exact fdCmp_lt x y
theorem fd_order : Go.Sort.SWO (Go.Proofs.ltOf fdCmp) where
  irrefl x := by rw [lt_of]; simp [fdLt]
  trans x y z h1 h2 := by
    rw [lt_of] at *
    simp only [fdLt, decide_eq_true_eq] at *
    omega
  ntrans x y z h1 h2 := by
    rw [lt_of] at *
    simp only [fdLt, decide_eq_false_iff_not] at *
    omega
theorem encF_one (x : Fd) : ∀ v ∈ encF x, v.oneCell' = true := by
  intro v hv
  simp [encF] at hv
  rcases hv with rfl | rfl | rfl | rfl | rfl | rfl | rfl <;> rfl
theorem fcells_flat (l : List Fd) (t : Nat) (u : Value) (h : (fcells l)[t]? = some u) : (flatK encF 7 l.toArray)[t]! = u ∧ t < l.length * 7 := by
  have ht : t < l.length * 7 := by
    have := (List.getElem?_eq_some_iff.1 h).1
    rw [fcells_len] at this
    exact this
  refine ⟨?_, ht⟩
  rw [get_flatK _ _ _ _ (by simpa using ht)]
  have hj : t / 7 < l.length := by omega
  have e : l.toArray[t / 7]! = l[t / 7] := by
    rw [getElem!_pos _ _ (by simpa using hj)]
    simp
  rw [e]
  have hm : t % 7 < (encF l[t / 7]).length := Nat.mod_lt _ (by decide)
  have h2 := fcells_at l (t / 7) l[t / 7] (List.getElem?_eq_getElem hj) (t % 7) _ (List.getElem?_eq_getElem hm)
  rw [show t / 7 * 7 + t % 7 = t by omega, h] at h2
  rw [getElem!_pos (encF l[t / 7]) (t % 7) hm]
  exact (Option.some.inj h2).symm
theorem flat_fcells (l : List Fd) (t : Nat) (ht : t < l.length * 7) : (fcells l)[t]? = some (flatK encF 7 l.toArray)[t]! := by
  have h : t < (fcells l).length := by rw [fcells_len]; exact ht
  rw [List.getElem?_eq_getElem h]
  exact congrArg some (fcells_flat l t _ (List.getElem?_eq_getElem h)).1.symm
theorem sorted_below (w : World) (n g : Nat) (d : Array Fd) (os : Array Obj) {base : Nat} (hg : base ≤ g) (hb : base ≤ w.heap.size) : Below base w (sortWorldK encF 7 w g 0 n d os) := by
  refine ⟨rfl, rfl, rfl, ?_, fun k hk => ?_⟩
  · simp [sortWorldK, Go.Sort.grow, putRowK, Go.Sort.putRow, Go.Sort.mapBlock, Go.Sort.ahead]
  · have hne : g ≠ k := by omega
    have hlt : k < w.heap.size := by omega
    simp only [sortWorldK, Go.Sort.grow, putRowK, Go.Sort.putRow, Go.Sort.mapBlock, Go.Sort.ahead]
    rw [Array.getElem?_append_left (by simpa using hlt), Array.getElem?_modify, if_neg hne]
theorem sort_any (base : Nat) (a : Option Addr) (cap : Nat) (l : List Fd) (w : World) (hl : l.length ≤ 10000000) (hb : base ≤ w.heap.size) (h : w.ownsRow base 77 7 (.slice a l.length cap) l.length (fcells l)) :
    Calls Try.prog 34 #[.slice a l.length cap, .func (.func 35) #[] #[]] w fun e w' => e = .returned (.tuple #[]) ∧ (∃ l' : List Fd, l'.Perm l ∧ InOrder l' ∧ l'.length = l.length ∧ Rw 7 w' (.slice a l.length cap) l.length (fcells l')) ∧ Below base w w' := by
  have hrw := own_rw h
  by_cases h0 : l.length = 0
  · have hl0 : l = [] := List.eq_nil_of_length_eq_zero h0
    subst hl0
    refine (AnyF.slices_SortFunc_none (P := Try.prog) (ρ := Try.sortFound_ren) { Try.sortFound with } a cap (.func (.func 35) #[] #[]) w).mono ?_
    rintro e w' ⟨rfl, hw⟩
    obtain rfl := hw
    exact ⟨rfl, ⟨[], List.Perm.refl _, List.Pairwise.nil, rfl, hrw⟩, (Below.refl _ _).mono (by omega)⟩
  · obtain ⟨_, hc⟩ := h
    rcases hc with ⟨hv, hn⟩ | ⟨g, cp, cur, hv, hB, hh, hnc, hcm, hcs, htake⟩
    · omega
    · cases hv
      have hH : HoldsK encF 7 w g 0 l.toArray := by
        intro t ht
        have ht' : t < l.length * 7 := by simpa using ht
        refine ⟨?_, by rw [Nat.zero_add]; exact thawed hh t⟩
        rw [Nat.zero_add, cell_of_block hh t]
        have h1 := flat_fcells l t ht'
        rw [← htake, List.getElem?_take_of_lt ht'] at h1
        simpa using h1
      have eg : ∀ args w, (callFunc 35 args).run Try.prog w = .ok (.enter 35 args) w := enters_of Try.func35 (by kernel_rfl) rfl
      have hcmp : CmpLays Try.prog 35 #[] encF 7 fdCmp g 0 l.toArray.size w := fun _ _ _ _ x y => against_any x y _
      have hcon := AnyQ.slices_SortFunc Try.sortFound 7 Try.isAgg77 Try.sizeOf77 encF (fun _ => rfl) encF_one fdCmp fd_order 35 #[] g 0 cap l.toArray w eg hcmp hH (block_lt hh) (by simp; omega)
      change Calls Try.prog 34 _ _ _ at hcon
      refine hcon.mono ?_
      rintro e w' ⟨rfl, d', n, os, hp, hs, rfl⟩
      have hsz : d'.size = l.length := by simpa using hp.1
      have hper : d'.toList.Perm l := by
        have := hp.2.2
        rw [Array.extract_eq_self_of_le (by rw [hsz]; simp), Array.extract_eq_self_of_le (Nat.le_refl _)] at this
        simpa using this
      have hle : d'.toList.length = l.length := by simpa using hsz
      refine ⟨rfl, ⟨d'.toList, hper, ?_, hle, ?_⟩, sorted_below w n g d' os hB hb⟩
      · unfold InOrder
        rw [List.pairwise_iff_getElem]
        intro i j hi hj hij
        have h3 := hs i j (by omega) hij (by simp at hj ⊢; omega)
        rw [lt_of] at h3
        rw [getElem!_pos d' j (by simpa using hj), getElem!_pos d' i (by simpa using hi)] at h3
        simpa using h3
      · obtain ⟨ao, ca, e, hcl, h0', hm, hm2, _⟩ := hrw
        cases e
        refine ⟨_, _, rfl, by rw [fcells_len, hle], h0', hm, hm2, fun _ => ⟨g, 0, rfl, ?_, ?_⟩⟩
        · have := (sorted_below w n g d' os (Nat.le_refl g) (Nat.le_of_lt (block_lt hh))).size
          have := block_lt hh
          omega
        · intro t u ht
          obtain ⟨h5, h6⟩ := fcells_flat _ t u ht
          have hput := holdsK_putRowK (enc := encF) (k := 7) (Go.Sort.ahead w n) g 0 l.toArray d' hH (by simp [hsz])
          have hgr := holdsK_grow (enc := encF) (k := 7) (putRowK encF 7 (Go.Sort.ahead w n) g 0 d') os g 0 d' (by simp [putRowK, Go.Sort.ahead, block_lt hh]) hput
          have h7 := (hgr t (by rw [size_flatK]; simpa using h6)).1
          rw [← h5]
          simpa [sortWorldK] using h7
end Go.Proofs.Ytdiokmaomglefaa
