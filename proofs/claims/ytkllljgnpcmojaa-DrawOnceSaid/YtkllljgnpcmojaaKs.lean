/- Slices of keys: places, fresh blocks, own rows, parts, append. -/
import Derived.Test.YtkllljgnpcmojaaUsed
namespace Go.Proofs.Ytkllljgnpcmojaa
open Go Go.RowKit

/-- The cells of keys. -/
def kcs (l : List Key) : List Value := l.flatMap kc
theorem kcs_length (l : List Key) : (kcs l).length = l.length * 32 := by
  induction l with
  | nil => rfl
  | cons k l ih => simp only [kcs, List.flatMap_cons, List.length_append, kc_length, List.length_cons] at *; omega
theorem kcs_one (l : List Key) : ∀ v ∈ kcs l, v.oneCell' = true := by
  intro v hv
  simp only [kcs, List.mem_flatMap] at hv
  obtain ⟨k, _, h⟩ := hv
  exact kc_one k v h
theorem kcs_append (a b : List Key) : kcs (a ++ b) = kcs a ++ kcs b := by simp [kcs]
theorem kcs_single (k : Key) : kcs [k] = kc k := by simp [kcs]
theorem kcs_at (l : List Key) : ∀ (j : Nat) (k : Key) (i : Nat), l[j]? = some k → i < 32 → (kcs l)[j * 32 + i]? = (kc k)[i]? := by
  induction l with
  | nil => intro j k i h; simp at h
  | cons x l ih =>
    intro j k i h hi
    cases j with
    | zero =>
      obtain rfl : x = k := by simpa using h
      simp only [kcs, List.flatMap_cons, Nat.zero_mul, Nat.zero_add]
      rw [List.getElem?_append_left (by rw [kc_length]; omega)]
    | succ j =>
      simp only [kcs, List.flatMap_cons]
      rw [List.getElem?_append_right (by rw [kc_length]; omega), kc_length, show (j + 1) * 32 + i - 32 = j * 32 + i by omega]
      exact ih j k i (by simpa using h) hi
theorem kcs_get (l : List Key) (m : Nat) (u : Value) (h : (kcs l)[m]? = some u) : ∃ k, l[m / 32]? = some k ∧ (kc k)[m % 32]? = some u := by
  have hm : m < l.length * 32 := by
    rcases Nat.lt_or_ge m (kcs l).length with h1 | h1
    · rwa [kcs_length] at h1
    · rw [List.getElem?_eq_none h1] at h; cases h
  have hq : m / 32 < l.length := by omega
  refine ⟨l[m / 32], List.getElem?_eq_getElem hq, ?_⟩
  rw [← kcs_at l (m / 32) _ (m % 32) (List.getElem?_eq_getElem hq) (by omega), show m / 32 * 32 + m % 32 = m by omega, h]
theorem Ks.len {w : World} {a : Option Addr} {n cap : Nat} {l : List Key} (h : Ks w (.slice a n cap) l) : n = l.length ∧ l.length ≤ cap ∧ cap ≤ maxLen ∧ l.length ≤ 140737488355328 := by
  obtain ⟨a', cap', e, _, h1, h2, h3, _⟩ := h
  cases e
  exact ⟨rfl, h1, h2, h3⟩
theorem Ks.at {w : World} {a : Option Addr} {n cap : Nat} {l : List Key} (h : Ks w (.slice a n cap) l) (j : Nat) (k : Key) (hj : l[j]? = some k) :
    ∃ b off, a = some ⟨b, off, none⟩ ∧ b < w.heap.size ∧ w.rangeAt b (off + j * 32) (kc k) := by
  obtain ⟨a', cap', e, _, _, _, _, hc⟩ := h
  cases e
  obtain ⟨b, off, ha, hb, hcell⟩ := hc (by intro h; simp [h] at hj)
  exact ⟨b, off, ha, hb, hcell j k hj⟩
theorem Ks.where {w : World} {a : Option Addr} {n cap : Nat} {l : List Key} (h : Ks w (.slice a n cap) l) (hl : 0 < l.length) :
    ∃ b off, a = some ⟨b, off, none⟩ ∧ b < w.heap.size ∧ ∀ j k, l[j]? = some k → w.rangeAt b (off + j * 32) (kc k) := by
  obtain ⟨a', cap', e, _, _, _, _, hc⟩ := h
  cases e
  exact hc (by intro h; simp [h] at hl)
theorem ks_nil (w : World) : Ks w (.slice none 0 0) [] := ⟨none, 0, rfl, fun _ => rfl, by simp, by unfold maxLen; omega, by simp, fun h => absurd rfl h⟩
theorem own_ks {w : World} {B : Nat} {v : Value} {l : List Key} (h : w.ownsRow B 26 32 v l.length (kcs l)) (hl : l.length ≤ 140737488355328) : Ks w v l := by
  rcases h.2 with ⟨rfl, h0⟩ | ⟨g, cap, cur, rfl, hg, hh, hn, hcap, r⟩
  · obtain rfl : l = [] := List.eq_nil_of_length_eq_zero h0
    exact ks_nil w
  · refine ⟨_, _, rfl, (fun h => by cases h), hn, hcap, hl, fun _ => ⟨g, 0, rfl, (Array.getElem?_eq_some_iff.1 hh).1, fun j k hj i u hi => ?_⟩⟩
    have hi' : i < 32 := by
      rcases Nat.lt_or_ge i (kc k).length with h1 | h1
      · rwa [kc_length] at h1
      · rw [List.getElem?_eq_none h1] at hi; cases hi
    have hc := h.cells (g := g) rfl (j * 32 + i) u (by rw [kcs_at l j k i hj hi', hi])
    have ha : (⟨g, 0, none⟩ : Addr).add (j * 32 + i) = ⟨g, 0 + j * 32 + i, none⟩ := by unfold Addr.add; split <;> simp_all
    rwa [ha] at hc
theorem ks_alloc (w : World) (l : List Key) (hl : l.length ≤ 140737488355328) : Ks (w.alloc (.cells (kcs l).toArray 26)) (.slice (some ⟨w.heap.size, 0, none⟩) l.length l.length) l := by
  refine ⟨_, _, rfl, (fun h => by cases h), Nat.le_refl _, by unfold maxLen; omega, hl, fun _ => ⟨w.heap.size, 0, rfl, by simp, fun j k hj i u hi => ?_⟩⟩
  have hi' : i < 32 := by
    rcases Nat.lt_or_ge i (kc k).length with h1 | h1
    · rwa [kc_length] at h1
    · rw [List.getElem?_eq_none h1] at hi; cases hi
  rw [World.cell?_alloc_at _ _ _ _ rfl]
  have := kcs_at l j k i hj hi'
  simpa [hi] using this
theorem Ks.take {w : World} {b off n cap : Nat} {l : List Key} (h : Ks w (.slice (some ⟨b, off, none⟩) n cap) l) (m : Nat) (hm : m ≤ l.length) : Ks w (.slice (some ⟨b, off, none⟩) m m) (l.take m) := by
  obtain ⟨a', cap', e, _, h1, h2, h3, hc⟩ := h
  cases e
  refine ⟨_, m, by rw [List.length_take, Nat.min_eq_left hm], (fun h => by cases h), by simp; omega, by omega, by simp; omega, fun hne => ?_⟩
  obtain ⟨b', off', ha, hb, hcell⟩ := hc (by intro h; simp [h] at hne)
  cases ha
  refine ⟨_, _, rfl, hb, fun j k hj => hcell j k ?_⟩
  rw [List.getElem?_take] at hj
  split at hj
  · exact hj
  · cases hj
theorem info_key3 : (Try.prog.info? 26).map (fun i => (i.zero, i.size, i.bytes)) = some (some (.agg (kc k0).toArray), 32, 32) := by kernel_rfl
/-- append(v, src...) onto a row of keys of the call's own, src whatever reads as keys. -/
theorem wpList_append_ks (w : World) {ops : Array Oper} {rest : List Oper} {o : Oper} {a : Act} {Q : Exit → Act → World → Prop} (hw : Region.wanted o (yielded ops a.tmps) = true) (s x : Operand)
    (ho : o.op = .call { callee := .builtin .append, args := #[s, x], argTypes := #[22, 22] })
    (base : Nat) (v : Value) (n : Nat) (xs : List Value) (hs : a.eval s = v) (hown : w.ownsRow base 26 32 v n xs)
    (src : Value) (l : List Key) (hx : a.eval x = src) (hsrc : Ks w src l)
    (hbytes : n + l.length ≤ 4398046511104) (hbase : base ≤ w.heap.size)
    (h : ∀ v' w', w'.ownsRow base 26 32 v' (n + l.length) (xs ++ kcs l) → w.grownBy w' v.ownBlock → (v' = .slice none 0 0 ↔ v = .slice none 0 0 ∧ l.length = 0 ) → wpList Try.prog ops Q rest (a.put o.dst v') w') : wpList Try.prog ops Q (o :: rest) a w := by
  refine wpList_step fun K hK => ?_
  rw [if_pos hw]
  obtain ⟨i0, hi, hz0, hz1, hz2⟩ := info_parts info_key3
  obtain ⟨ao, cap, rfl, h0, hl, hl2, hl3, hc⟩ := hsrc
  cases ao with
  | none =>
    obtain rfl : cap = 0 := h0 rfl
    obtain rfl : l = [] := List.eq_nil_of_length_eq_zero (by omega)
    have hrun := run_append_owned_none (P := Try.prog) (w := w) base 22 o.type 26 i0 32 Try.underlying22 hi v n xs hown
    unfold Oper.wp
    simp only [List.length_nil] at hx
    simp [execOp, ho, resolve, invoke, builtin, hs, hx, hrun, Result.andThen]
    exact hK _ _ (h v w (by simpa [kcs] using hown) (World.grownBy.refl _ _) (by simp))
  | some ad =>
    refine wp_append_own w s x _ ho base _ i0 _ 32 32 Try.underlying22 hi hz0 hz1 hz2 (by simp [Value.cells, kc_length]) (by decide) v n xs hs hown ad l.length cap (kcs l) hx (kcs_length l) ?_ (kcs_one l) (by unfold maxLen; omega) (by omega) hbase (fun v' w' h2 h3 h4 => hK _ _ (h v' w' h2 h3 h4))
    intro j u hj
    obtain ⟨k, hk, hu⟩ := kcs_get l j u hj
    obtain ⟨b, off, e, hb, hcell⟩ := hc (by intro h; simp [h] at hk)
    obtain rfl := Option.some.inj e
    rw [show (⟨b, off, none⟩ : Addr).add j = ⟨b, off + j, none⟩ from Go.WideShapes.add_plain _ _ _, ← hcell _ k hk _ u hu]
    congr 2
    omega
/-- The same as a step of a drawn region. -/
theorem step_append_ks (w : World) {ops : Array Oper} {o : Oper} {a : Act} {Q : Exit → Act → World → Prop} {K : Act → World → Prop} (hw : Region.wanted o (yielded ops a.tmps) = true) (s x : Operand)
    (ho : o.op = .call { callee := .builtin .append, args := #[s, x], argTypes := #[22, 22] })
    (base : Nat) (v : Value) (n : Nat) (xs : List Value) (hs : a.eval s = v) (hown : w.ownsRow base 26 32 v n xs)
    (src : Value) (l : List Key) (hx : a.eval x = src) (hsrc : Ks w src l)
    (hbytes : n + l.length ≤ 4398046511104) (hbase : base ≤ w.heap.size)
    (h : ∀ v' w', w'.ownsRow base 26 32 v' (n + l.length) (xs ++ kcs l) → w.grownBy w' v.ownBlock → (v' = .slice none 0 0 ↔ v = .slice none 0 0 ∧ l.length = 0 ) → K (a.put o.dst v') w') : if Region.wanted o (yielded ops a.tmps) then o.wp Try.prog a w K Q else K (a.put o.dst undef) w := by
  rw [if_pos hw]
  obtain ⟨i0, hi, hz0, hz1, hz2⟩ := info_parts info_key3
  obtain ⟨ao, cap, rfl, h0, hl, hl2, hl3, hc⟩ := hsrc
  cases ao with
  | none =>
    obtain rfl : cap = 0 := h0 rfl
    obtain rfl : l = [] := List.eq_nil_of_length_eq_zero (by omega)
    have hrun := run_append_owned_none (P := Try.prog) (w := w) base 22 o.type 26 i0 32 Try.underlying22 hi v n xs hown
    unfold Oper.wp
    simp only [List.length_nil] at hx
    simp [execOp, ho, resolve, invoke, builtin, hs, hx, hrun, Result.andThen]
    exact h v w (by simpa [kcs] using hown) (World.grownBy.refl _ _) (by simp)
  | some ad =>
    refine wp_append_own w s x _ ho base _ i0 _ 32 32 Try.underlying22 hi hz0 hz1 hz2 (by simp [Value.cells, kc_length]) (by decide) v n xs hs hown ad l.length cap (kcs l) hx (kcs_length l) ?_ (kcs_one l) (by unfold maxLen; omega) (by omega) hbase (fun v' w' h2 h3 h4 => h v' w' h2 h3 h4)
    intro j u hj
    obtain ⟨k, hk, hu⟩ := kcs_get l j u hj
    obtain ⟨b, off, e, hb, hcell⟩ := hc (by intro h; simp [h] at hk)
    obtain rfl := Option.some.inj e
    rw [show (⟨b, off, none⟩ : Addr).add j = ⟨b, off + j, none⟩ from Go.WideShapes.add_plain _ _ _, ← hcell _ k hk _ u hu]
    congr 2
    omega
end Go.Proofs.Ytkllljgnpcmojaa
