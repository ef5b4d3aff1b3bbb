/- log.Append, all cases at once. -/
import Derived.Test.YtdiokmaomglefaaLAppend
import Derived.Test.YtdiokmaomglefaaMC
namespace Go.Proofs.Ytdiokmaomglefaa
open Go Go.RowKit

theorem zoneOk_grow {size : Int} {z : Zn} {b : List UInt8} (h : zoneOk size z = true) (hb : 0 < b.length) (hr : (b.length : Int) ≤ size - (z.data.length : Int)) : zoneOk size (grow size z b) = true := by
  unfold zoneOk at h ⊢
  simp only [Bool.and_eq_true, Bool.not_eq_true', decide_eq_false_iff_not, decide_eq_true_eq] at h ⊢
  unfold grow filled
  simp only [List.length_append]
  have hne : ¬ z.data.length + b.length = 0 := by omega
  simp only [if_neg hne]
  split <;> omega
theorem zoneOk_finish {size : Int} {z : Zn} (h : zoneOk size z = true) : zoneOk size (finish z) = true := by
  unfold zoneOk at h ⊢
  simp only [Bool.and_eq_true, Bool.not_eq_true', decide_eq_false_iff_not, decide_eq_true_eq] at h ⊢
  exact ⟨h.1, .inr (.inr (.inl rfl))⟩
theorem zoneOk_empty {size : Int} {z : Zn} (h : zoneOk size z = true) : zoneOk size ⟨0, [], 0⟩ = true := by
  unfold zoneOk at h ⊢
  simp only [Bool.and_eq_true, Bool.not_eq_true', decide_eq_false_iff_not, decide_eq_true_eq] at h ⊢
  exact ⟨by simp only [List.length_nil]; omega, .inl (by simp)⟩
theorem devOk_zone {d : Dv} (h : devOk d = true) {j : Nat} {z : Zn} (hz : d.zs[j]? = some z) : zoneOk d.size z = true := by
  unfold devOk at h
  simp only [Bool.and_eq_true] at h
  exact List.all_eq_true.1 h.1.1.1 z (List.mem_of_getElem? hz)
theorem devOk_setZ {d : Dv} (h : devOk d = true) (j : Nat) {z : Zn} (hz : zoneOk d.size z = true) : devOk (setZ (tick d) j z) = true := by
  unfold devOk at h ⊢
  simp only [Bool.and_eq_true, decide_eq_true_eq] at h ⊢
  refine ⟨⟨⟨?_, ?_⟩, ?_⟩, h.2⟩
  · rw [List.all_eq_true]
    intro y hy
    rcases List.mem_or_eq_of_mem_set hy with h1 | rfl
    · exact List.all_eq_true.1 h.1.1.1 y h1
    · exact hz
  · exact h.1.1.2
  · show 0 < (d.zs.set j z).length ∧ (d.zs.set j z).length ≤ 64
    rw [List.length_set]
    exact h.1.2
theorem Free.setZ {d : Dv} (h : Free d) (j : Nat) {z : Zn} (hz : zoneOk d.size z = true) : Free (setZ (tick d) j z) := ⟨devOk_setZ h.ok j hz, h.up, h.left, h.fault⟩
theorem Free.tick {d : Dv} (h : Free d) : Free (tick d) := ⟨h.ok, h.up, h.left, h.fault⟩
theorem DvO.below {X : List Nat} {w w' : World} {cs : List Value} {d : Dv} (h : DvO X w cs d) (hb : Below w.heap.size w w') : DvO X w' cs d := h.away (Away.of_below hb)
/-- What an append makes of a device: the device, zone, place, how many commands, error. -/
def App (d : Dv) (b : List UInt8) (dl : Dv) (zr ar : Int) (nd : Nat) (er : Int) : Prop :=
  (d.size < b.length ∧ dl = d ∧ zr = 0 ∧ ar = 0 ∧ nd = 0 ∧ er = 1) ∨
  ((b.length : Int) ≤ d.size ∧ ((idxOf (firstP d.size 1 b.length) d.zs = -1 ∧ idxOf (firstP d.size 0 b.length) d.zs = -1 ∧ dl = d ∧ zr = 0 ∧ ar = 0 ∧ nd = 0 ∧ er = 160) ∨
    (∃ (j : Nat) (z : Zn), idxOf (firstP d.size 1 b.length) d.zs = j ∧ d.zs[j]? = some z ∧ firstP d.size 1 b.length z = true ∧ dl = setZ (tick d) j (grow d.size z b) ∧ zr = j ∧ ar = z.data.length ∧ nd = 1 ∧ er = 0) ∨
    (∃ (k : Nat) (z : Zn), idxOf (firstP d.size 1 b.length) d.zs = -1 ∧ idxOf (firstP d.size 0 b.length) d.zs = k ∧ d.zs[k]? = some z ∧ firstP d.size 0 b.length z = true ∧
      ((¬ 4 ≤ openN d.zs ∧ dl = setZ (tick d) k (grow d.size z b) ∧ zr = k ∧ ar = 0 ∧ nd = 1 ∧ er = 0) ∨
       (4 ≤ openN d.zs ∧ ∃ (i : Nat) (y : Zn), d.zs[i]? = some y ∧ y.st = 1 ∧ i ≠ k ∧
        ((¬ 4 ≤ openN (d.zs.set i (finish y)) ∧ dl = setZ (tick (setZ (tick d) i (finish y))) k (grow d.size z b) ∧ zr = k ∧ ar = 0 ∧ nd = 2 ∧ er = 0) ∨
         (4 ≤ openN (d.zs.set i (finish y)) ∧ dl = tick (setZ (tick d) i (finish y)) ∧ ((er = 0 ∧ zr = k ∧ ar = 0 ∧ nd = 2) ∨ (er = 90 ∧ zr = 0 ∧ ar = 0 ∧ nd = 1)))))))))
def AppQ (Y : List Nat) (d : Dv) (cs : List Value) (b : List UInt8) (w : World) (e : Ending) (w' : World) : Prop :=
  (∃ cs' dl zr ar nd er a c, e = .returned (.tuple #[.agg cs'.toArray, .int .i64 zr, .int .i64 ar, .slice a nd c, .int .i64 er]) ∧ DvO Y w' cs' dl ∧ App d b dl zr ar nd er ∧ (er = 1 ∨ er = 160 → cs' = cs)) ∧ Below w.heap.size w w'
theorem app_q {Y : List Nat} {d dl : Dv} {cs cs' : List Value} {b : List UInt8} {w w' : World} {zr ar er : Int} {nd : Nat} {a : Option Addr} {c : Nat} (hd : DvO Y w' cs' dl) (hb : Below w.heap.size w w') (hA : App d b dl zr ar nd er) (h : er = 0 ∨ er = 90) :
    AppQ Y d cs b w (.returned (.tuple #[.agg cs'.toArray, .int .i64 zr, .int .i64 ar, .slice a nd c, .int .i64 er])) w' := ⟨⟨cs', dl, zr, ar, nd, er, a, c, rfl, hd, hA, fun h2 => by omega⟩, hb⟩
theorem firstP_is {size st n : Int} {z : Zn} (h : firstP size st n z = true) : z.st = st ∧ n ≤ size - (z.data.length : Int) := by
  unfold firstP at h
  exact of_decide_eq_true h
theorem idxOf_neg (p : Zn → Bool) (zs : List Zn) (h : ¬ 0 ≤ idxOf p zs) : idxOf p zs = -1 := by
  unfold idxOf at h ⊢
  split at h
  · omega
  · rfl
theorem idxOf_some (p : Zn → Bool) (zs : List Zn) {z : Zn} (h : z ∈ zs) (hp : p z = true) : 0 ≤ idxOf p zs := by
  unfold idxOf
  split
  · omega
  · rename_i hn
    rw [List.findIdx?_eq_none_iff] at hn
    rw [hn z h] at hp
    cases hp
theorem app_err {Y : List Nat} {d : Dv} {cs : List Value} {b : List UInt8} {ad : Addr} {c : Nat} {w : World} (h : DvO Y w cs d) (er : Int) (he : er ≠ 0) (hA : App d b d 0 0 0 er)
    (hp : ∀ w1, Below w.heap.size w w1 → Calls Try.prog 25 #[.agg cs.toArray, .int .i64 b.length] w1 (PlPost ⟨0, 0, none, er⟩ w1)) :
    Calls Try.prog 10 #[.agg cs.toArray, .slice (some ad) b.length c] w (AppQ Y d cs b w) := by
  refine (append_err d cs (some ad) b.length c w h.is er he hp).mono ?_
  rintro e w' ⟨rfl, hb⟩
  exact ⟨⟨cs, d, 0, 0, 0, er, none, 0, rfl, h.below hb, hA, fun _ => rfl⟩, hb⟩
theorem open_finish (zs : List Zn) (i : Nat) (y : Zn) (h : zs[i]? = some y) (hy : y.st = 1) : openN (zs.set i (finish y)) + 1 = openN zs := by
  unfold openN
  induction zs generalizing i with
  | nil => simp at h
  | cons z zs ih =>
    cases i with
    | zero =>
      simp at h
      subst h
      simp [finish, hy]
    | succ i =>
      have := ih i (by simpa using h)
      simp only [List.set_cons_succ, List.countP_cons]
      omega
theorem app_any (Y : List Nat) (d : Dv) (cs : List Value) (b : List UInt8) (ad : Addr) (c : Nat) (w : World) (h : DvO Y w cs d) (hY : ∀ y ∈ Y, y < w.heap.size) (free : Free d) (hb : Bt w (.slice (some ad) b.length c) b) (hne : 0 < b.length) :
    Calls Try.prog 10 #[.agg cs.toArray, .slice (some ad) b.length c] w (AppQ Y d cs b w) := by
  have hsz := devOk_size free.ok
  by_cases hbig : d.size < (b.length : Int)
  · exact app_err h 1 (by decide) (.inl ⟨hbig, rfl, rfl, rfl, rfl, rfl⟩) (fun w1 hb1 => place_arg d cs b.length w1 (h.is.below hb1) (.inr (.inr hbig)))
  · have hle : (b.length : Int) ≤ d.size := by omega
    have h1 : ¬ (b.length : Int) < 1 := by omega
    by_cases ho : 0 ≤ idxOf (firstP d.size 1 b.length) d.zs
    · obtain ⟨j, z, hj, hz, hp, hjl⟩ := idxOf_ge _ _ ho
      obtain ⟨hst, hr⟩ := firstP_is hp
      refine (append_core Y d cs (some ad) b.length c w h hY ⟨j, z.data.length, none, 0⟩ rfl (fun k => if k = 0 then d else setZ (tick d) j (grow d.size z b)) (fun _ => 0) rfl
        (fun w1 hb1 => place_open d cs b.length w1 (h.is.below hb1) free.ok h1 hbig j z hj hz) ?_).mono ?_
      · intro k hk Y1 w1 cs1 hb1 hd1 hY1
        have hk0 : k = 0 := by simp [cmdsN] at hk; omega
        subst hk0
        refine (do_append Y1 d cs1 w1 hd1 hY1 free j z hz ad b.length c b (hb.below hb1) (.inl hst) (devOk_zone free.ok hz) hne hr hsz.2).mono ?_
        rintro e w' ⟨⟨cs', rfl, hd'⟩, hb'⟩
        exact ⟨⟨cs', 0, rfl, .inl rfl, hd'⟩, hb'⟩
      · rintro e w' ⟨⟨cs', zr, ar, er, nd, dl, a, c', rfl, hd', hc⟩, hb'⟩
        refine app_q hd' hb' ?_ (by rcases hc with ⟨h2, _⟩ | ⟨h2, q9, _, h3, _⟩ <;> (first | exact .inl h2 | exact .inl h3 | (dsimp only at h3; split at h3 <;> simp [h3])))
        rcases hc with ⟨h2, h3, h4, h5, h6⟩ | ⟨h2, k, hk, h3, _⟩
        · exact .inr ⟨hle, .inr (.inl ⟨j, z, hj, hz, hp, h6, h3, h4, h5, h2⟩)⟩
        · exact absurd h3 h2
    · have ho1 := idxOf_neg _ _ ho
      by_cases he : 0 ≤ idxOf (firstP d.size 0 b.length) d.zs
      · obtain ⟨k, z, hk, hz, hp, hkl⟩ := idxOf_ge _ _ he
        obtain ⟨hst, hr⟩ := firstP_is hp
        by_cases hop : 4 ≤ openN d.zs
        · have hfi : 0 ≤ idxOf (firstP d.size 1 0) d.zs := by
            have : 0 < openN d.zs := by omega
            unfold openN at this
            rw [List.countP_pos_iff] at this
            obtain ⟨y, hy, hy1⟩ := this
            have hy2 := List.getElem?_of_mem hy
            obtain ⟨q, hq⟩ := hy2
            have hzo := devOk_zone free.ok hq
            refine idxOf_some _ _ hy ?_
            unfold firstP
            refine decide_eq_true ⟨of_decide_eq_true hy1, ?_⟩
            unfold zoneOk at hzo
            simp only [Bool.and_eq_true, Bool.not_eq_true', decide_eq_false_iff_not] at hzo
            omega
          obtain ⟨i, y, hi, hy, hpy, hil⟩ := idxOf_ge _ _ hfi
          obtain ⟨hyst, _⟩ := firstP_is hpy
          have hik : i ≠ k := by
            rintro rfl
            rw [hy] at hz
            cases hz
            omega
          have hz1 : (setZ (tick d) i (finish y)).zs[k]? = some z := by
            show (d.zs.set i (finish y))[k]? = some z
            rw [List.getElem?_set_ne hik]
            exact hz
          have fr1 : Free (setZ (tick d) i (finish y)) := free.setZ i (zoneOk_finish (devOk_zone free.ok hy))
          have hpl := fun w1 hb1 => place_finish d cs b.length w1 (h.is.below (w' := w1) hb1) free.ok h1 hbig ho1 k hk hop
          rw [hi] at hpl
          by_cases hop2 : 4 ≤ openN (d.zs.set i (finish y))
          · refine (append_core Y d cs (some ad) b.length c w h hY ⟨k, 0, some i, 0⟩ rfl (fun q => if q = 0 then d else if q = 1 then setZ (tick d) i (finish y) else tick (setZ (tick d) i (finish y))) (fun q => if q = 0 then 0 else 90) rfl hpl ?_).mono ?_
            · intro q hq Y1 w1 cs1 hb1 hd1 hY1
              have hq2 : q = 0 ∨ q = 1 := by simp [cmdsN] at hq; omega
              rcases hq2 with rfl | rfl
              · refine (do_finish Y1 d cs1 w1 hd1 hY1 free i y hy (.inr hyst) none 0 0).mono ?_
                rintro e w' ⟨⟨cs', rfl, hd'⟩, hb'⟩
                exact ⟨⟨cs', 0, rfl, .inl rfl, hd'⟩, hb'⟩
              · exact do_full Y1 (setZ (tick d) i (finish y)) cs1 w1 hd1 hY1 fr1 k z hz1 (some ad) b.length c hst hop2 |>.mono fun e w' ⟨⟨cs', er, he', h3, hd'⟩, hb'⟩ => ⟨⟨cs', er, he', by rcases h3 with h3 | h3 <;> simp [h3], hd'⟩, hb'⟩
            · rintro e w' ⟨⟨cs', zr, ar, er, nd, dl, a, c', rfl, hd', hc⟩, hb'⟩
              refine app_q hd' hb' ?_ (by rcases hc with ⟨h2, _⟩ | ⟨h2, q9, _, h3, _⟩ <;> (first | exact .inl h2 | exact .inl h3 | (dsimp only at h3; split at h3 <;> simp [h3])))
              refine .inr ⟨hle, .inr (.inr ⟨k, z, ho1, hk, hz, hp, .inr ⟨hop, i, y, hy, hyst, hik, .inr ⟨hop2, ?_⟩⟩⟩)⟩
              rcases hc with ⟨h2, h3, h4, h5, h6⟩ | ⟨h2, q, hq, h3, h4, h5, h6, h7⟩
              · exact ⟨h6, .inl ⟨h2, h3, h4, h5⟩⟩
              · have hq2 : q = 0 ∨ q = 1 := by simp [cmdsN] at hq; omega
                rcases hq2 with rfl | rfl
                · exact absurd h3 h2
                · exact ⟨h7, .inr ⟨h3, h4, h5, h6⟩⟩
          · refine (append_core Y d cs (some ad) b.length c w h hY ⟨k, 0, some i, 0⟩ rfl (fun q => if q = 0 then d else if q = 1 then setZ (tick d) i (finish y) else setZ (tick (setZ (tick d) i (finish y))) k (grow d.size z b)) (fun _ => 0) rfl hpl ?_).mono ?_
            · intro q hq Y1 w1 cs1 hb1 hd1 hY1
              have hq2 : q = 0 ∨ q = 1 := by simp [cmdsN] at hq; omega
              rcases hq2 with rfl | rfl
              · refine (do_finish Y1 d cs1 w1 hd1 hY1 free i y hy (.inr hyst) none 0 0).mono ?_
                rintro e w' ⟨⟨cs', rfl, hd'⟩, hb'⟩
                exact ⟨⟨cs', 0, rfl, .inl rfl, hd'⟩, hb'⟩
              · refine (do_append Y1 (setZ (tick d) i (finish y)) cs1 w1 hd1 hY1 fr1 k z hz1 ad b.length c b (hb.below hb1) (.inr ⟨hst, hop2⟩) (devOk_zone fr1.ok hz1) hne hr hsz.2).mono ?_
                rintro e w' ⟨⟨cs', rfl, hd'⟩, hb'⟩
                exact ⟨⟨cs', 0, rfl, .inl rfl, hd'⟩, hb'⟩
            · rintro e w' ⟨⟨cs', zr, ar, er, nd, dl, a, c', rfl, hd', hc⟩, hb'⟩
              refine app_q hd' hb' ?_ (by rcases hc with ⟨h2, _⟩ | ⟨h2, q9, _, h3, _⟩ <;> (first | exact .inl h2 | exact .inl h3 | (dsimp only at h3; split at h3 <;> simp [h3])))
              refine .inr ⟨hle, .inr (.inr ⟨k, z, ho1, hk, hz, hp, .inr ⟨hop, i, y, hy, hyst, hik, .inl ⟨hop2, ?_⟩⟩⟩)⟩
              rcases hc with ⟨h2, h3, h4, h5, h6⟩ | ⟨h2, q, hq, h3, _⟩
              · exact ⟨h6, h3, h4, h5, h2⟩
              · exact absurd h3 h2
        · refine (append_core Y d cs (some ad) b.length c w h hY ⟨k, 0, none, 0⟩ rfl (fun q => if q = 0 then d else setZ (tick d) k (grow d.size z b)) (fun _ => 0) rfl
            (fun w1 hb1 => place_empty d cs b.length w1 (h.is.below hb1) free.ok h1 hbig ho1 k hk hop) ?_).mono ?_
          · intro q hq Y1 w1 cs1 hb1 hd1 hY1
            have hq0 : q = 0 := by simp [cmdsN] at hq; omega
            subst hq0
            refine (do_append Y1 d cs1 w1 hd1 hY1 free k z hz ad b.length c b (hb.below hb1) (.inr ⟨hst, hop⟩) (devOk_zone free.ok hz) hne hr hsz.2).mono ?_
            rintro e w' ⟨⟨cs', rfl, hd'⟩, hb'⟩
            exact ⟨⟨cs', 0, rfl, .inl rfl, hd'⟩, hb'⟩
          · rintro e w' ⟨⟨cs', zr, ar, er, nd, dl, a, c', rfl, hd', hc⟩, hb'⟩
            refine app_q hd' hb' ?_ (by rcases hc with ⟨h2, _⟩ | ⟨h2, q9, _, h3, _⟩ <;> (first | exact .inl h2 | exact .inl h3 | (dsimp only at h3; split at h3 <;> simp [h3])))
            rcases hc with ⟨h2, h3, h4, h5, h6⟩ | ⟨h2, q, hq, h3, _⟩
            · exact .inr ⟨hle, .inr (.inr ⟨k, z, ho1, hk, hz, hp, .inl ⟨hop, h6, h3, h4, h5, h2⟩⟩)⟩
            · exact absurd h3 h2
      · have he1 := idxOf_neg _ _ he
        exact app_err h 160 (by decide) (.inr ⟨hle, .inl ⟨ho1, he1, rfl, rfl, rfl, rfl, rfl⟩⟩) (fun w1 hb1 => place_space d cs b.length w1 (h.is.below hb1) free.ok h1 hbig ho1 he1)
end Go.Proofs.Ytdiokmaomglefaa
