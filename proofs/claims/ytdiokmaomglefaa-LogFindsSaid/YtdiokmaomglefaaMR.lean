import Derived.Deep.RegionHeld3
/- The steps of a drawn region by hand, over a list of operations. -/
namespace Go.Proofs.Ytdiokmaomglefaa
open Go

theorem takeL {P : Program} {md : Region.Mode} {l : List Oper} {Q : Exit → Act → World → Prop} {S : World → Prop} {fuel : Nat} {listed : Array Bool} {a : Act} {w : World} (i : Nat) {oi : Oper} {v : Value} (hi : l[i]? = some oi)
    (hs : Region.noSelect l.toArray = true) (hf : Region.free md l.toArray listed i = true) (hr : (Region.ready md l.toArray listed).contains i = true)
    (hQ : ∀ c a w, Q (.panic c) (a.put oi.dst v) w → Q (.panic c) a w) (hy : YieldsIf P l.toArray S oi v a) (hS : S w)
    (h : wpAnyH P md l.toArray Q S fuel (listed.setIfInBounds i true) (a.put oi.dst v) w) : wpAnyH P md l.toArray Q S (fuel + 1) listed a w :=
  wpAnyH_take (by simpa using hi) hs hf hr hQ hy hS h
theorem stepL {P : Program} {md : Region.Mode} {l : List Oper} {Q : Exit → Act → World → Prop} {S : World → Prop} {fuel : Nat} {listed : Array Bool} {a : Act} {w : World} (i : Nat) {oi : Oper} (hi : l[i]? = some oi)
    (hr : Region.ready md l.toArray listed = [i])
    (h : ∀ K' : Act → World → Prop, Shut (∀ a w, S w → (S w → wpAnyH P md l.toArray Q S fuel (listed.setIfInBounds i true) a w) → K' a w) → if Region.wanted oi (yielded l.toArray a.tmps) = true then Oper.wp P oi a w K' Q else K' (a.put oi.dst undef) w) :
    wpAnyH P md l.toArray Q S (fuel + 1) listed a w :=
  wpAnyH_ready hr (by simp) (AllReadyH.cons (by simpa using hi) h AllReadyH.nil)
theorem consL {P : Program} {md : Region.Mode} {l : List Oper} {Q : Exit → Act → World → Prop} {S : World → Prop} {fuel : Nat} {listed : Array Bool} {a : Act} {w : World} {rs : List Nat} (i : Nat) {oi : Oper} (hi : l[i]? = some oi)
    (hs : AllReadyH P md l.toArray Q S fuel listed a w rs)
    (h : ∀ K' : Act → World → Prop, Shut (∀ a w, S w → (S w → wpAnyH P md l.toArray Q S fuel (listed.setIfInBounds i true) a w) → K' a w) → if Region.wanted oi (yielded l.toArray a.tmps) = true then Oper.wp P oi a w K' Q else K' (a.put oi.dst undef) w) :
    AllReadyH P md l.toArray Q S fuel listed a w (i :: rs) := AllReadyH.cons (by simpa using hi) h hs
end Go.Proofs.Ytdiokmaomglefaa
/- Drawn regions in two phases: a condition on the world that has to hold only till one operation (a call behind the loads) has come up. -/
namespace Go.Proofs.Ytdiokmaomglefaa
open Go

/-- As long as number c has not come up, T holds. -/
def Till (c : Nat) (T : World → Prop) (listed : Array Bool) (w : World) : Prop := listed.getD c true = false → T w
theorem till_over {c : Nat} {T : World → Prop} {listed : Array Bool} {w : World} (h : listed.getD c true = true) : Till c T listed w := by
  intro hf
  rw [h] at hf
  cases hf
theorem Till.next {c : Nat} {T : World → Prop} {listed : Array Bool} {w : World} (h : Till c T listed w) (j : Nat) : Till c T (listed.setIfInBounds j true) w := by
  intro hf
  refine h ?_
  by_cases e : j = c
  · subst e
    by_cases hl : j < listed.size
    · simp [hl] at hf
    · simp [hl] at hf
  · rwa [getD_set_ne true e] at hf
/-- Whatever order is picked, and the condition holds behind each operation as long as it is asked. -/
def wpTill (P : Program) (md : Region.Mode) (ops : Array Oper) (Q : Exit → Act → World → Prop) (c : Nat) (T : World → Prop) (fuel : Nat) (listed : Array Bool) (a : Act) (w : World) : Prop :=
  match fuel with
  | 0 => wpAny P md ops Q 0 listed a w
  | n + 1 => (Region.ready md ops listed = [] → Q .normal a w) ∧
      ∀ i, i ∈ Region.ready md ops listed → wpOp P ops Q i (fun b v => Till c T (listed.setIfInBounds i true) v ∧ wpTill P md ops Q c T n (listed.setIfInBounds i true) b v) a w
section
variable {P : Program} {ops : Array Oper} {Q : Exit → Act → World → Prop} {md : Region.Mode} {c : Nat} {T : World → Prop}
theorem wpAny_of_till : ∀ (fuel : Nat) (listed : Array Bool) (a : Act) (w : World), wpTill P md ops Q c T fuel listed a w → wpAny P md ops Q fuel listed a w
  | 0, _, _, _, h => h
  | n + 1, _, _, _, h => ⟨h.1, fun i hi => wpOp_mono (fun b v hb => wpAny_of_till n _ b v hb.2) (h.2 i hi)⟩
theorem wpTill_first {i : Nat} {oi : Oper} {v : Value} {U : World → Prop} (hi : ops[i]? = some oi) (hci : c ≠ i)
    (hA : (∀ w, U w) ∨ ((∀ w, T w → U w) ∧ ∀ listed, listed.getD i true = false → ¬ c ∈ Region.ready md ops listed))
    (hsel : ∀ (j : Nat) (o : Oper) cs b, ops[j]? = some o → o.op ≠ .select cs b) (hQ : ∀ c a w, Q (.panic c) (a.put oi.dst v) w → Q (.panic c) a w)
    (fuel : Nat) : ∀ (listed : Array Bool) (a : Act) (w : World), ((∀ w, U w) ∨ listed.getD c true = false) →
      (∀ j oj, ops[j]? = some oj → j ≠ i → listed.getD j true = false → (∀ e ∈ oj.after, Region.binds md e = true → e.on ≠ i) → oi.apart ops oj = true) →
      i ∈ Region.ready md ops listed → YieldsIf P ops U oi v a → Till c T listed w →
      wpTill P md ops Q c T fuel (listed.setIfInBounds i true) (a.put oi.dst v) w → wpTill P md ops Q c T (fuel + 1) listed a w := by
  have getU : ∀ (listed : Array Bool) (w : World), ((∀ w, U w) ∨ listed.getD c true = false) → Till c T listed w → U w := fun listed w h1 h2 => by
    rcases hA with hA | hA
    · exact hA w
    · rcases h1 with h1 | h1
      · exact h1 w
      · exact hA.1 w (h2 h1)
  induction fuel with
  | zero =>
    intro listed a w hc _ hr hy hS H
    have H' : Region.ready md ops (listed.setIfInBounds i true) = [] ∧ Q .normal (a.put oi.dst v) w := H
    refine ⟨fun h => absurd (h ▸ hr) (by simp), fun j hj => ?_⟩
    by_cases e : j = i
    · subst e
      exact hy.wpOp hi (getU _ _ hc hS) ⟨hS.next _, H⟩
    · have := ready_mono hj e
      rw [H'.1] at this
      cases this
  | succ n ih =>
    intro listed a w hc hfree hr hy hS H
    refine ⟨fun h => absurd (h ▸ hr) (by simp), fun j hj => ?_⟩
    by_cases e : j = i
    · subst e
      exact hy.wpOp hi (getU _ _ hc hS) ⟨hS.next _, H⟩
    · obtain ⟨hun, oj, hoj, hall⟩ := mem_ready.1 hj
      have hun0 := (mem_ready.1 hr).1
      have hnot : ∀ x ∈ oj.after, Region.binds md x = true → x.on ≠ i := fun x hx hb he => by
        have h1 := hall x hx hb
        rw [he] at h1
        rcases Nat.lt_or_ge i listed.size with hl | hl
        · simp [hl] at hun0 h1; rw [hun0] at h1; cases h1
        · simp [Array.getElem?_eq_none hl] at h1
      have h2 := wpOp_putIf hoj (hfree j oj hoj e hun hnot) (fun cs b => hsel i oi cs b hi) (fun cs b => hsel j oj cs b hoj) hQ hy (H.2 j (ready_mono hj e))
      refine wpOp_mono (fun b u h3 => ?_) h2
      obtain ⟨hy3, hT3, hW3⟩ := h3
      have hT4 : Till c T (listed.setIfInBounds j true) u := by
        intro hf
        refine hT3 ?_
        rw [Array.setIfInBounds_comm _ _ (Ne.symm e), getD_set_ne true (Ne.symm hci)]
        exact hf
      have hc4 : (∀ w, U w) ∨ (listed.setIfInBounds j true).getD c true = false := by
        rcases hA with hA | hA
        · exact Or.inl hA
        · rcases hc with hc | hc
          · exact Or.inl hc
          · refine Or.inr ?_
            have : j ≠ c := fun h => hA.2 listed hun0 (h ▸ hj)
            rw [getD_set_ne true this]
            exact hc
      refine ⟨hT4, ih (listed.setIfInBounds j true) b u hc4 ?_ (ready_mono hr (Ne.symm e)) hy3 hT4 ?_⟩
      · intro k ok hk hki hkun hno
        refine hfree k ok hk hki ?_ hno
        by_cases ek : j = k
        · subst ek; exact hun
        · rwa [getD_set_ne true ek] at hkun
      · rw [Array.setIfInBounds_comm _ _ e]
        exact hW3
end
/-- The operation c waits for i. -/
def waits (md : Region.Mode) (l : List Oper) (c i : Nat) : Bool := match l[c]? with
  | some oc => oc.after.any (fun e => Region.binds md e && e.on == i)
  | none => true
theorem waits_ready {md : Region.Mode} {l : List Oper} {c i : Nat} (h : waits md l c i = true) (listed : Array Bool) (hl : listed.getD i true = false) : ¬ c ∈ Region.ready md l.toArray listed := by
  intro hr
  obtain ⟨_, oc, hoc, hall⟩ := mem_ready.1 hr
  have hoc' : l[c]? = some oc := by simpa using hoc
  unfold waits at h
  rw [hoc'] at h
  obtain ⟨x, hx, hb⟩ := Array.any_eq_true'.1 h
  simp only [Bool.and_eq_true, beq_iff_eq] at hb
  have h1 := hall x hx hb.1
  rw [hb.2] at h1
  rcases Nat.lt_or_ge i listed.size with hl2 | hl2
  · simp [hl2] at hl h1; rw [hl] at h1; cases h1
  · simp [Array.getElem?_eq_none hl2] at h1
section
variable {P : Program} {md : Region.Mode} {l : List Oper} {Q : Exit → Act → World → Prop} {c : Nat} {T : World → Prop} {fuel : Nat} {listed : Array Bool} {a : Act} {w : World}
/-- Taken first: it hangs on no world. -/
theorem takeM (i : Nat) {oi : Oper} {v : Value} (hi : l[i]? = some oi) (hci : (c != i) = true)
    (hs : Region.noSelect l.toArray = true) (hf : Region.free md l.toArray listed i = true) (hr : (Region.ready md l.toArray listed).contains i = true)
    (hQ : ∀ c a w, Q (.panic c) (a.put oi.dst v) w → Q (.panic c) a w) (hy : YieldsIf P l.toArray (fun _ => True) oi v a) (hS : Till c T listed w)
    (h : Till c T (listed.setIfInBounds i true) w → wpTill P md l.toArray Q c T fuel (listed.setIfInBounds i true) (a.put oi.dst v) w) : wpTill P md l.toArray Q c T (fuel + 1) listed a w :=
  have hi' : l.toArray[i]? = some oi := by simpa using hi
  wpTill_first hi' (by simpa using hci) (Or.inl fun _ => trivial) (Region.noSelect_spec hs) hQ fuel listed a w (Or.inl fun _ => trivial) (Region.free_spec hi' hf) (by simpa using hr) hy hS (h (hS.next i))
/-- Taken first: it hangs on what holds till number c, and number c waits for it. -/
theorem takeT (i : Nat) {oi : Oper} {v : Value} (hi : l[i]? = some oi) (hci : (c != i) = true) (hw : waits md l c i = true) (hc : listed.getD c true = false)
    (hs : Region.noSelect l.toArray = true) (hf : Region.free md l.toArray listed i = true) (hr : (Region.ready md l.toArray listed).contains i = true)
    (hQ : ∀ c a w, Q (.panic c) (a.put oi.dst v) w → Q (.panic c) a w) (hy : YieldsIf P l.toArray T oi v a) (hS : Till c T listed w)
    (h : Till c T (listed.setIfInBounds i true) w → wpTill P md l.toArray Q c T fuel (listed.setIfInBounds i true) (a.put oi.dst v) w) : wpTill P md l.toArray Q c T (fuel + 1) listed a w :=
  have hi' : l.toArray[i]? = some oi := by simpa using hi
  wpTill_first hi' (by simpa using hci) (Or.inr ⟨fun _ h => h, waits_ready hw⟩) (Region.noSelect_spec hs) hQ fuel listed a w (Or.inr hc) (Region.free_spec hi' hf) (by simpa using hr) hy hS (h (hS.next i))
/-- The one that may come up comes up. -/
theorem stepM (i : Nat) {oi : Oper} (hi : l[i]? = some oi) (hr : Region.ready md l.toArray listed = [i])
    (h : ∀ K' : Act → World → Prop, Shut (∀ a w, Till c T (listed.setIfInBounds i true) w → (Till c T (listed.setIfInBounds i true) w → wpTill P md l.toArray Q c T fuel (listed.setIfInBounds i true) a w) → K' a w) → if Region.wanted oi (yielded l.toArray a.tmps) = true then Oper.wp P oi a w K' Q else K' (a.put oi.dst undef) w) :
    wpTill P md l.toArray Q c T (fuel + 1) listed a w := by
  refine ⟨fun h0 => absurd (hr ▸ h0) (by simp), fun j hj => ?_⟩
  rw [hr] at hj
  obtain rfl : j = i := by simpa using hj
  exact wpOp_step (by simpa using hi) (fun K' hK => h K' (fun a w hS hW => hK a w ⟨hS, hW hS⟩))
theorem doneM (hr : Region.ready md l.toArray listed = []) (h : Q .normal a w) : ∀ fuel, wpTill P md l.toArray Q c T fuel listed a w
  | 0 => ⟨hr, h⟩
  | _ + 1 => ⟨fun _ => h, by rw [hr]; simp⟩
end
theorem wp_region_till {P : Program} {l : List Oper} {Q : Exit → Act → World → Prop} {T : World → Prop} {id : Nat} {a : Act} {w : World} (c : Nat) (hm : P.follows .mixedOrders = true) (hT : T w.drew)
    (h : Till c T (Array.replicate l.toArray.size false) w.drew → wpTill P .any l.toArray Q c T l.toArray.size (Array.replicate l.toArray.size false) a w.drew) : (Code.region id l.toArray true).wp P Q a w :=
  wp_region_any hm (wpAny_of_till _ _ _ _ (h fun _ => hT))
end Go.Proofs.Ytdiokmaomglefaa
