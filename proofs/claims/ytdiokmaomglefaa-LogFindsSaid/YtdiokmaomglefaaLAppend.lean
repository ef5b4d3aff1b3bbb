/- The log: Append. -/
import Derived.Test.YtdiokmaomglefaaMC
import Derived.WalkMore
import Derived.Test.YtdiokmaomglefaaGBlock
namespace Go.Proofs.Ytdiokmaomglefaa
open Go Go.RowKit

/-- A command's cells. -/
def cmdC (k n : Int) (v : Value) : List Value := [.int .i64 k, .int .i64 n, v]
/-- The commands of an append. -/
def cmdsC (p : Pl) (v : Value) : List Value := match p.fin with
  | none => cmdC 1 p.zone v
  | some j => cmdC 3 j (.slice none 0 0) ++ cmdC 1 p.zone v
def cmdsN (p : Pl) : Nat := match p.fin with
  | none => 1
  | some _ => 2
theorem info_cmd : (Try.prog.info? 37).map (fun i => (i.zero, i.size, i.bytes)) = some (some (.agg #[.int .i64 0, .int .i64 0, .slice none 0 0]), 3, 40) := by kernel_rfl
theorem results_c4 {P : Program} {fn : Func} {p u v x y : Tmp} {t1 : TypeId} (h : fn.results = #[.cell p t1, .tmp u, .tmp v, .tmp x, .tmp y]) (tmps : Array Value) (w : World) (g1 : Nat) (e1 : TypeId) (c1 : Array Value) (d1 : TypeDesc) (n : Nat)
    (hp : tmps.getD p undef = .pointer (some ⟨g1, 0, none⟩)) (h1 : w.heap[g1]? = some (.cells c1 e1 (0, 0)))
    (hu1 : P.underlying t1 = some d1) (hd1 : (match d1 with | .struct _ | .array _ _ => true | _ => false) = true) (hi1 : (P.info? t1).map (·.size) = some n) (hn : c1.size = n) :
    (results fn tmps).run P w = .ok (.tuple #[.agg c1, tmps.getD u undef, tmps.getD v undef, tmps.getD x undef, tmps.getD y undef]) w := by
  have hp' : tmps[p]?.getD undef = .pointer (some ⟨g1, 0, none⟩) := by simpa using hp
  simp [results, h, hp', asAddr, run_loadVar_row w g1 e1 t1 c1 (0, 0) d1 h1 hu1 hd1 (by rw [hn]; exact hi1)]
/-- What an append that finds no place leaves. -/
theorem append_err (d : Dv) (cs : List Value) (ab : Option Addr) (nb cb : Nat) (w : World) (h : DvIs w cs d) (err : Int) (he : err ≠ 0)
    (hp : ∀ w1, Below w.heap.size w w1 → Calls Try.prog 25 #[.agg cs.toArray, .int .i64 nb] w1 (PlPost ⟨0, 0, none, err⟩ w1)) :
    Calls Try.prog 10 #[.agg cs.toArray, .slice ab nb cb] w fun e w' => e = .returned (.tuple #[.agg cs.toArray, .int .i64 0, .int .i64 0, .slice none 0 0, .int .i64 err]) ∧ Below w.heap.size w w' := by
  have hten := h.ten
  have hone := h.one
  obtain ⟨vz, r0, r1, f0, f1, rfl, hz, q0, q1, q2, q3⟩ := h
  clear hz q0 q1 q2 q3
  have HP := Lib.hid hp
  have hbig : (err == 0) = false := by simpa using he
  have hbig2 : (err != 0) = true := by simpa using he
  have hi10 : (Try.prog.info? 27).map (·.size) = some 10 := by kernel_rfl
  have HTEN := Lib.hid hten
  clear hp he hten
  unfold dcs at *
  go_enter Try.func10, Try.ntmps10
  go_wp2
  go_step3
  go_wp2_with fail
  refine calls_world (fun wa e0 => ?_)
  obtain ⟨g2, g4, hba, hsa⟩ := two_alloc e0
  clear e0
  refine (HP.out wa hba).mono ?_
  rintro e wf ⟨⟨v, rfl, hfin⟩, hbf⟩
  obtain rfl : v = .slice none 0 0 := hfin
  have g22 := blk_on g2 hbf
  have g44 := blk_on g4 hbf
  have hb2 := hba.trans (hbf.mono hba.size)
  have rD := range_of_block (cs := [.int .i64 d.size, vz, r0, r1, f0, f1, .bool d.down, .int .i64 d.left, .int .i64 d.fault, .int .i64 d.done]) g22
  clear hba hsa g2 g4 hbf g22
  go_wp2_with (first
    | refine wpList_load_at (by rfl) 27 (.tmp 2) rfl w.heap.size 0 (by rfl) [.int .i64 d.size, vz, r0, r1, f0, f1, .bool d.down, .int .i64 d.left, .int .i64 d.fault, .int .i64 d.done] _ rD Try.underlying27 rfl hi10 ?_
    | (refine wpList_lay (by rfl) 27 (.tmp 4) (.tmp 27) rfl (w.heap.size + 1) #[.int .i64 d.size, vz, r0, r1, f0, f1, .bool d.down, .int .i64 d.left, .int .i64 d.fault, .int .i64 d.done] (by rfl) (by rfl) 27 _ g44 10 hi10 HTEN.out rfl hone ?_; intro w9 hL9))
  rw [Exit.noGoto_ret]
  refine bodyPost_ret (results_c4 rfl _ _ (w.heap.size + 1) _ _ _ 10 rfl hL9.blk Try.underlying27 rfl hi10 HTEN.out) rfl ?_
  exact ⟨rfl, hb2.trans (hL9.bel.mono (by omega))⟩
/-- The commands of an append, each as kind, number, bytes. -/
def cmdK (p : Pl) (v : Value) (k : Nat) : Int × Int × Value := match p.fin with
  | none => (1, p.zone, v)
  | some j => if k = 0 then (3, j, .slice none 0 0) else (1, p.zone, v)
theorem cmdsC_at (p : Pl) (v : Value) (k : Nat) (hk : k < cmdsN p) (i : Nat) (u : Value) (h : [Value.int .i64 (cmdK p v k).1, .int .i64 (cmdK p v k).2.1, (cmdK p v k).2.2][i]? = some u) : (cmdsC p v)[k * 3 + i]? = some u := by
  obtain ⟨z, a, f, e⟩ := p
  cases f with
  | none =>
    simp only [cmdsN] at hk
    obtain rfl : k = 0 := by omega
    simpa [cmdsC, cmdC, cmdK] using h
  | some j =>
    simp only [cmdsN] at hk
    rcases (by omega : k = 0 ∨ k = 1) with rfl | rfl
    · simp only [cmdsC, cmdC, cmdK, if_true] at h ⊢
      rw [List.getElem?_append_left]
      · simpa using h
      · have := (List.getElem?_eq_some_iff.1 h).1
        simpa using this
    · simp only [cmdsC, cmdC, cmdK] at h ⊢
      rw [List.getElem?_append_right (by simp)]
      simpa using h
theorem cmdK_slice (p : Pl) (ab : Option Addr) (nb cb : Nat) (k : Nat) : ∃ a n c, (cmdK p (.slice ab nb cb) k).2.2 = .slice a n c := by
  obtain ⟨z, a, f, e⟩ := p
  cases f with
  | none => exact ⟨ab, nb, cb, rfl⟩
  | some j =>
    simp only [cmdK]
    split
    · exact ⟨none, 0, 0, rfl⟩
    · exact ⟨ab, nb, cb, rfl⟩
/-- What an append leaves: the device behind the commands that were done, how many they were, and where the bytes stand, or an error. -/
def AppPost (Y : List Nat) (p : Pl) (ds : Nat → Dv) (ek : Nat → Int) (w : World) (e : Ending) (w' : World) : Prop :=
  (∃ cs' zr ar er nd dl a c, e = .returned (.tuple #[.agg cs'.toArray, .int .i64 zr, .int .i64 ar, .slice a nd c, .int .i64 er]) ∧ DvO Y w' cs' dl ∧
    ((er = 0 ∧ zr = p.zone ∧ ar = p.at_ ∧ nd = cmdsN p ∧ dl = ds (cmdsN p)) ∨ (er ≠ 0 ∧ ∃ k, k < cmdsN p ∧ er = ek k ∧ zr = 0 ∧ ar = 0 ∧ nd = k ∧ dl = ds (k + 1)))) ∧ Below w.heap.size w w'
theorem app_mk {Y : List Nat} {p : Pl} {ds : Nat → Dv} {ek : Nat → Int} {w w' : World} {e : Ending} (cs' : List Value) (zr ar er : Int) (nd : Nat) (dl : Dv) (a : Option Addr) (c : Nat) (he : e = .returned (.tuple #[.agg cs'.toArray, .int .i64 zr, .int .i64 ar, .slice a nd c, .int .i64 er])) (hd : DvO Y w' cs' dl)
    (hc : (er = 0 ∧ zr = p.zone ∧ ar = p.at_ ∧ nd = cmdsN p ∧ dl = ds (cmdsN p)) ∨ (er ≠ 0 ∧ ∃ k, k < cmdsN p ∧ er = ek k ∧ zr = 0 ∧ ar = 0 ∧ nd = k ∧ dl = ds (k + 1))) (hb : Below w.heap.size w w') : AppPost Y p ds ek w e w' := ⟨⟨cs', zr, ar, er, nd, dl, a, c, he, hd, hc⟩, hb⟩
structure AppLoop (Y dnl : List Nat) (g cap : Nat) (p : Pl) (bvv : Value) (dv : Dv) (cs : List Value) (dn : Value) (k : Nat) (w wr : World) : Prop where
  dev : wr.heap[w.heap.size]? = some (.cells cs.toArray 27 (0, 0))
  is : DvO (dnl ++ ([w.heap.size, w.heap.size + 1] ++ Y)) wr cs dv
  hdn : k < 2 → dnl = dn.ownBlock.toList
  nil0 : k = 0 → dn = .slice none 0 0
  res : wr.heap[w.heap.size + 1]? = some (.cells #[.int .i64 0, .slice none 0 0, .slice none 0 0, .slice none 0 0, .slice none 0 0, .slice none 0 0, .bool false, .int .i64 0, .int .i64 0, .int .i64 0] 27 (0, 0))
  cmds : k < cmdsN p → wr.ownsRow (w.heap.size + 2) 37 3 (.slice (some ⟨g, 0, none⟩) (cmdsN p) cap) (cmdsN p) (cmdsC p bvv)
  done : ∃ xs, wr.ownsRow (w.heap.size + 2) 37 3 dn k xs
  bel : Below w.heap.size w wr
set_option linter.unusedSimpArgs false in
set_option maxRecDepth 100000 in
set_option maxHeartbeats 4000000 in
theorem append_core (Y : List Nat) (d : Dv) (cs : List Value) (ab : Option Addr) (nb cb : Nat) (w : World) (h : DvO Y w cs d) (hY : ∀ y ∈ Y, y < w.heap.size) (p : Pl) (h0 : p.err = 0) (ds : Nat → Dv) (ek : Nat → Int) (hd0 : ds 0 = d)
    (hp : ∀ w1, Below w.heap.size w w1 → Calls Try.prog 25 #[.agg cs.toArray, .int .i64 nb] w1 (PlPost p w1))
    (hdo : ∀ k, k < cmdsN p → ∀ Y1 w1 cs1, Below w.heap.size w w1 → DvO Y1 w1 cs1 (ds k) → (∀ y ∈ Y1, y < w1.heap.size) → Calls Try.prog 12 #[.agg cs1.toArray, .agg #[.int .i64 (cmdK p (.slice ab nb cb) k).1, .int .i64 (cmdK p (.slice ab nb cb) k).2.1, (cmdK p (.slice ab nb cb) k).2.2]] w1
      fun e w' => (∃ cs' er, e = .returned (.tuple #[.agg cs'.toArray, .int .i64 er]) ∧ (er = 0 ∨ er = ek k) ∧ DvO Y1 w' cs' (ds (k + 1))) ∧ Below w1.heap.size w1 w') :
    Calls Try.prog 10 #[.agg cs.toArray, .slice ab nb cb] w (AppPost Y p ds ek w) := by
  have HYY := Lib.hid hY
  clear hY
  have HH := Lib.hid h
  obtain ⟨vz, r0, r1, f0, f1, rfl, hz, q0, q1, q2, q3⟩ := h
  clear hz q0 q1 q2 q3
  have HP := Lib.hid hp
  have HDO := Lib.hid hdo
  have HD0 := Lib.hid hd0
  obtain ⟨t0, hi, hz0, hz1, hz2⟩ := info_parts info_cmd
  have HI := Lib.hid hi
  have hi10 : (Try.prog.info? 27).map (·.size) = some 10 := by kernel_rfl
  have hi3 : (Try.prog.info? 37).map (·.size) = some 3 := by kernel_rfl
  clear hp hdo hd0 hi
  unfold dcs at *
  go_enter Try.func10, Try.ntmps10
  go_wp2
  go_step3
  go_wp2_with fail
  refine calls_world (fun wa e0 => ?_)
  obtain ⟨g2, g4, hba, hsa⟩ := two_alloc e0
  clear e0
  refine (HP.out wa hba).mono ?_
  rintro e wf ⟨⟨v, rfl, hfin⟩, hbf⟩
  rw [h0]
  have hfin' : wf.ownsRow (w.heap.size + 2) 37 3 v (cmdsN p - 1) (match p.fin with | none => [] | some j => cmdC 3 j (.slice none 0 0)) := by
    obtain ⟨z, a, f, e⟩ := p
    cases f with
    | none =>
      obtain rfl : v = .slice none 0 0 := hfin
      exact World.ownsRow_nil _ _ _ _
    | some j =>
      have h1 : wf.ownsRow wa.heap.size 37 3 v 1 [.int .i64 3, .int .i64 j, .slice none 0 0] := hfin
      exact owns_base h1 (by omega)
  have g22 := blk_on g2 hbf
  have g44 := blk_on g4 hbf
  have hb2 := hba.trans (hbf.mono hba.size)
  have hszf : w.heap.size + 2 ≤ wf.heap.size := by have := hbf.size; omega
  have hN : cmdsN p = 1 ∨ cmdsN p = 2 := by
    obtain ⟨z, a, f, e⟩ := p
    cases f
    · exact Or.inl rfl
    · exact Or.inr rfl
  have hsrc : Rw 3 (wf.alloc (.cells #[.int .i64 1, .int .i64 p.zone, .slice ab nb cb] 37)) (.slice (some ⟨wf.heap.size, 0, none⟩) 1 1) 1 [.int .i64 1, .int .i64 p.zone, .slice ab nb cb] := rw_alloc 3 wf 1 [.int .i64 1, .int .i64 p.zone, .slice ab nb cb] 37 rfl (by unfold maxLen; omega)
  have hone : ∀ u ∈ [Value.int .i64 1, .int .i64 p.zone, .slice ab nb cb], u.oneCell' = true := by
    intro u hu
    simp at hu
    rcases hu with rfl | rfl | rfl <;> rfl
  clear hba hsa g2 g4 hbf hfin
  go_wp2
  go_step3
  go_wp2_with (at_builtin
               refine wpList_append_rw _ (by rfl) (.tmp 29) (.tmp 33) 31 rfl (w.heap.size + 2) 37 t0 (.agg #[.int .i64 0, .int .i64 0, .slice none 0 0]) 3 40 Try.underlying31 HI.out hz0 hz1 hz2 rfl (by decide) v (cmdsN p - 1) _ (by rfl) (hfin'.alloc _) _ 1 [.int .i64 1, .int .i64 p.zone, .slice ab nb cb] (by rfl) hsrc hone (by unfold maxLen; omega) (by omega) (by simp; omega) ?_
               intro v5 w5 hown5 hg5
               have hN1 : cmdsN p - 1 + 1 = cmdsN p := by omega
               rw [hN1] at hown5
               obtain ⟨g, cap, rfl⟩ : ∃ g cap, v5 = .slice (some ⟨g, 0, none⟩) (cmdsN p) cap := by
                 obtain ⟨_, h1 | ⟨g, c, cur, e, _⟩⟩ := hown5
                 · omega
                 · exact ⟨g, c, e⟩)
  have hb5 : Below (w.heap.size + 2) wf w5 := ((Below.refl _ wf).alloc hszf _).grown hg5 (by simp; omega) (fun k hk => (hfin'.lt k hk).1)
  have hcm : (match p.fin with | none => [] | some j => cmdC 3 j (.slice none 0 0)) ++ [Value.int .i64 1, .int .i64 p.zone, .slice ab nb cb] = cmdsC p (.slice ab nb cb) := by
    obtain ⟨z, a, f, e⟩ := p
    cases f <;> rfl
  rw [hcm] at hown5
  have AL : AppLoop Y [] g cap p (.slice ab nb cb) (ds 0) [.int .i64 d.size, vz, r0, r1, f0, f1, .bool d.down, .int .i64 d.left, .int .i64 d.fault, .int .i64 d.done] (.slice none 0 0) 0 w w5 :=
    ⟨(hb5.block _ (by omega)).trans g22, by rw [HD0.out]; exact (HH.out.add2 (by intro x hx; simp at hx; rcases hx with rfl | rfl | hx; exact Or.inl (Nat.le_refl _); exact Or.inl (Nat.le_succ _); exact Or.inr hx)).away (Away.of_below (hb2.trans (hb5.mono (by omega)))), fun _ => rfl, fun _ => rfl, (hb5.block _ (by omega)).trans g44, fun _ => hown5, ⟨[], World.ownsRow_nil _ _ _ _⟩, hb2.trans (hb5.mono (by omega))⟩
  have HAL := Lib.hid AL
  clear AL hown5 hg5 hb5 hcm g22 g44 hb2 hfin' hsrc
  go_wp2_with fail
  go_loopw [12, 13, 15, 36] (fun e dn _ i wr => ∃ k : Nat, k ≤ cmdsN p ∧ i = .int .i64 k ∧ e = .int .i64 0 ∧ ∃ cs dnl, AppLoop Y dnl g cap p (.slice ab nb cb) (ds k) cs dn k w wr) (fun _ _ _ i _ => cmdsN p - (intOf i).toNat)
  case atStart => exact ⟨0, by omega, rfl, rfl, _, _, HAL.out⟩
  case round =>
    clear HAL
    obtain ⟨k, hk, rfl, rfl, cs1, dnl, HO⟩ := hrel
    have i0 : (0 : Int) ≤ (k : Int) := by omega
    by_cases hlt : k < cmdsN p
    · have i1 : (k : Int) < (cmdsN p : Int) := by omega
      obtain ⟨ca, cn, cc, hsl⟩ := cmdK_slice p ab nb cb k
      have hrc : wr.rangeAt g (0 + k * 3) [.int .i64 (cmdK p (.slice ab nb cb) k).1, .int .i64 (cmdK p (.slice ab nb cb) k).2.1, .slice ca cn cc] := by
        intro i u hu
        have hi3 : i < 3 := by simpa using (List.getElem?_eq_some_iff.1 hu).1
        have h1 := cmdsC_at p (.slice ab nb cb) k hlt i u (by rw [hsl]; exact hu)
        rw [show 0 + k * 3 + i = k * 3 + i by omega, (HO.cmds hlt).cellAt (k * 3 + i) (by omega)]
        exact h1
      rw [Nat.zero_add] at hrc
      have hcall := HDO.out k hlt
      rw [hsl] at hcall
      generalize (cmdK p (.slice ab nb cb) k).1 = kk at hrc hcall
      generalize (cmdK p (.slice ab nb cb) k).2.1 = kn at hrc hcall
      have hba : ∀ o, Below wr.heap.size wr (wr.alloc o) := fun o => (Below.refl _ wr).alloc (Nat.le_refl _) o
      have h10 := HO.is.is.ten
      have hrD : ∀ o, (wr.alloc o).rangeAt w.heap.size 0 cs1 := fun o => range_of_block (blk_on HO.dev (hba o))
      have hi1 : (Try.prog.info? 27).map (·.size) = some cs1.length := by
        have : cs1.length = 10 := by simpa using h10
        rw [this]
        exact hi10
      have hlY : ∀ y ∈ dnl ++ ([w.heap.size, w.heap.size + 1] ++ Y), y < wr.heap.size := by
        intro y hy
        have h1 := block_lt HO.dev
        have h2 := block_lt HO.res
        have h3 := HYY.out y
        have h4 := HO.bel.size
        simp only [List.mem_append, List.mem_cons, List.not_mem_nil, or_false] at hy
        rcases hy with hy | (rfl | rfl) | hy
        · have hk2 : k < 2 := by omega
          rw [HO.hdn hk2] at hy
          obtain ⟨xs, hd⟩ := HO.done
          exact (hd.lt y (by simpa using hy)).2
        · exact h1
        · exact h2
        · have := h3 hy
          omega
      have HLY := Lib.hid hlY
      have hc2 : ∀ o, Calls Try.prog 12 #[.agg cs1.toArray, .agg #[.int .i64 kk, .int .i64 kn, .slice ca cn cc]] (wr.alloc o) fun e w' => (∃ cs' er, e = .returned (.tuple #[.agg cs'.toArray, .int .i64 er]) ∧ (er = 0 ∨ er = ek k) ∧ DvO (dnl ++ ([w.heap.size, w.heap.size + 1] ++ Y)) w' cs' (ds (k + 1))) ∧ Below (wr.alloc o).heap.size (wr.alloc o) w' :=
        fun o => hcall (dnl ++ ([w.heap.size, w.heap.size + 1] ++ Y)) (wr.alloc o) cs1 (HO.bel.trans ((hba o).mono HO.bel.size)) (HO.is.away (Away.of_below (hba o))) (fun y hy => Nat.lt_of_lt_of_le (hlY y hy) (hba o).size)
      have HC2 := Lib.hid hc2
      have HRD := Lib.hid hrD
      have HOO := Lib.hid HO
      have HSL := Lib.hid hsl
      clear hcall hc2 hrD hba HO hsl h10 hlY
      go_wp2_with (first
        | refine wpList_load_at (by rfl) 37 (.tmp 38) rfl g (k * 3) (by rfl) [.int .i64 kk, .int .i64 kn, .slice ca cn cc] _ hrc Try.underlying37 rfl hi3 ?_
        | refine wpList_load_at (by rfl) 27 (.tmp 2) rfl w.heap.size 0 (by rfl) cs1 _ (HRD.out _) Try.underlying27 rfl hi1 ?_)
      refine calls_world (fun wx e0 => ?_)
      obtain ⟨gA, hbx, hsx⟩ := one_alloc e0
      have hcx := HC2.out (.cells #[.int .i64 kk, .int .i64 kn, .slice ca cn cc] 37)
      rw [← e0] at hcx
      clear e0
      refine hcx.mono ?_
      rintro e wy ⟨⟨cs2, er, rfl, her, hdv⟩, hby⟩
      have h10 := hdv.is.ten
      have hone2 := hdv.is.one
      have hold10 := HOO.out.is.is.ten
      have gA2 := blk_on gA hby
      have gD2 := blk_on (blk_on HOO.out.dev hbx) hby
      have hbxy := hbx.trans (hby.mono hbx.size)
      have hsA : wr.heap.size < wy.heap.size := by have := hby.size; omega
      have hAD : w.heap.size + 1 < wr.heap.size := block_lt HOO.out.res
      obtain ⟨A, hA⟩ : ∃ A, wr.heap.size = A := ⟨_, rfl⟩
      rw [hA] at gA2 hsA hAD ⊢
      have HDV := Lib.hid hdv
      have HBXY := Lib.hid hbxy
      have HA := Lib.hid hA
      clear gA hcx hdv hbx hby hsx hbxy hA HC2 HRD HDO HP HH HD0 hrc
      have hone3 : ∀ u ∈ [Value.int .i64 kk, .int .i64 kn, .slice ca cn cc], u.oneCell' = true := by
        intro u hu
        simp at hu
        rcases hu with rfl | rfl | rfl <;> rfl
      by_cases er0 : er = 0
      · subst er0
        clear her
        by_cases hk0 : k = 0
        · have hn := HOO.out.nil0 hk0
          subst hn
          have HK0 := Lib.hid hk0
          clear hk0
          go_wp2_with (first
            | (refine wpList_lay (by rfl) 27 (.tmp 2) (.tmp 44) rfl w.heap.size cs2.toArray (by rfl) (by rfl) 27 _ gD2 10 hi10 h10 hold10 hone2 ?_
               intro wz hLz
               have gA3 := (hLz.rest A (by omega)).trans gA2
               have a0 : wz.cell? ⟨A, 0, none⟩ = some (.int .i64 kk) := (cell_of_block gA3 0).trans rfl
               have a1 : wz.cell? ⟨A, 1, none⟩ = some (.int .i64 kn) := (cell_of_block gA3 1).trans rfl
               have a2 : wz.cell? ⟨A, 2, none⟩ = some (.slice ca cn cc) := (cell_of_block gA3 2).trans rfl
               have hsrc : Rw 3 (wz.alloc (.cells #[.int .i64 kk, .int .i64 kn, .slice ca cn cc] 37)) (.slice (some ⟨wz.heap.size, 0, none⟩) 1 1) 1 [.int .i64 kk, .int .i64 kn, .slice ca cn cc] := rw_alloc 3 wz 1 [.int .i64 kk, .int .i64 kn, .slice ca cn cc] 37 rfl (by unfold maxLen; omega)
               clear gD2 h10 hone2 hold10)
            | (at_builtin
               refine wpList_append_rw _ (by rfl) (.tmp 48) (.tmp 50) 31 rfl wz.heap.size 37 t0 (.agg #[.int .i64 0, .int .i64 0, .slice none 0 0]) 3 40 Try.underlying31 HI.out hz0 hz1 hz2 rfl (by decide) (.slice none 0 0) 0 [] (by rfl) (World.ownsRow_nil _ _ _ _) _ 1 [.int .i64 kk, .int .i64 kn, .slice ca cn cc] (by rfl) hsrc hone3 (by unfold maxLen; omega) (by omega) (by simp) ?_
               intro v7 w7 hown7 hg7))
          obtain rfl := HK0.out
          have hb7 : Below wz.heap.size wz w7 := ((Below.refl _ wz).alloc (Nat.le_refl _) _).grown hg7 (by simp) (fun k hk => by cases hk)
          have HO := HOO.out
          have hA := HA.out
          have e1 := (Away.of_below (X := dnl ++ ([w.heap.size, w.heap.size + 1] ++ Y)) HBXY.out)
          have e2 := HDV.out.away (Away.laid hLz (by simp))
          have e3 := (e2.add2 (X := v7.ownBlock.toList ++ ([w.heap.size, w.heap.size + 1] ++ Y)) (by
            intro x hx
            rcases List.mem_append.1 hx with hx | hx
            · exact Or.inl (hown7.lt x (by simpa using hx)).1
            · exact Or.inr (List.mem_append.2 (Or.inr hx)))).away (Away.of_below hb7)
          have f1 : ∀ k, w.heap.size + 2 ≤ k → wz.heap[k]? = wy.heap[k]? := fun k hk => hLz.rest k (by omega)
          have f2 := owns_below (own_on (owns_below (HO.cmds hlt) HBXY.out) f1) hb7
          have HN := Lib.hid (AppLoop.mk (Y := Y) (g := g) (cap := cap) (p := p) (bvv := .slice ab nb cb) (k := 0 + 1) (w := w) (blk_on hLz.blk hb7) e3 (fun _ => rfl) (fun h => by omega) (blk_on ((hLz.rest (w.heap.size + 1) (by omega)).trans (blk_on HO.res HBXY.out)) hb7) (fun _ => f2) ⟨_, owns_base hown7 (by have := hLz.size; omega)⟩ (HO.bel.trans ((HBXY.out.mono (by omega)).trans ((hLz.bel.mono (by omega)).trans (hb7.mono (by have := hLz.size; omega))))))
          clear hb7 HO e1 e2 e3 f1 f2 hown7 hg7 hsrc a0 a1 a2 gA3 hLz hA
          go_wp2
          go_roundw
          case rel => exact ⟨1, by omega, rfl, rfl, _, _, HN.out⟩
          case measure =>
            show cmdsN p - ((0 : Nat) + 1 : Int).toNat < cmdsN p - ((0 : Nat) : Int).toNat
            omega
        · have hk1 : k = 1 := by omega
          obtain ⟨xs, hdone⟩ := HOO.out.done
          have hdy := owns_below hdone HBXY.out
          have HK1 := Lib.hid hk1
          have hk3 : k ≤ 2 := by omega
          clear hk1 hdone
          go_wp2_with (first
            | (refine wpList_lay (by rfl) 27 (.tmp 2) (.tmp 44) rfl w.heap.size cs2.toArray (by rfl) (by rfl) 27 _ gD2 10 hi10 h10 hold10 hone2 ?_
               intro wz hLz
               have gA3 := (hLz.rest A (by omega)).trans gA2
               have a0 : wz.cell? ⟨A, 0, none⟩ = some (.int .i64 kk) := (cell_of_block gA3 0).trans rfl
               have a1 : wz.cell? ⟨A, 1, none⟩ = some (.int .i64 kn) := (cell_of_block gA3 1).trans rfl
               have a2 : wz.cell? ⟨A, 2, none⟩ = some (.slice ca cn cc) := (cell_of_block gA3 2).trans rfl
               have hsrc : Rw 3 (wz.alloc (.cells #[.int .i64 kk, .int .i64 kn, .slice ca cn cc] 37)) (.slice (some ⟨wz.heap.size, 0, none⟩) 1 1) 1 [.int .i64 kk, .int .i64 kn, .slice ca cn cc] := rw_alloc 3 wz 1 [.int .i64 kk, .int .i64 kn, .slice ca cn cc] 37 rfl (by unfold maxLen; omega)
               have hdz := own_on hdy (fun k hk => hLz.rest k (by omega))
               clear gD2 h10 hone2 hold10)
            | (at_builtin
               refine wpList_append_rw _ (by rfl) (.tmp 48) (.tmp 50) 31 rfl (w.heap.size + 2) 37 t0 (.agg #[.int .i64 0, .int .i64 0, .slice none 0 0]) 3 40 Try.underlying31 HI.out hz0 hz1 hz2 rfl (by decide) _ k xs (by rfl) (hdz.alloc _) _ 1 [.int .i64 kk, .int .i64 kn, .slice ca cn cc] (by rfl) hsrc hone3 (by unfold maxLen; omega) (by omega) (by have := hLz.size; simp; omega) ?_
               intro v7 w7 hown7 hg7))
          obtain rfl := HK1.out
          have hb7 : Below (w.heap.size + 2) wz w7 := ((Below.refl _ wz).alloc (by have := hLz.size; omega) _).grown hg7 (by have := hLz.size; simp; omega) (fun k hk => (hdz.lt k hk).1)
          have HO := HOO.out
          have hA := HA.out
          have e2 := HDV.out.away (Away.laid hLz (by simp))
          have e3 : Away (dnl ++ ([w.heap.size, w.heap.size + 1] ++ Y)) wz w7 := by
            refine ⟨by have := hb7.size; omega, fun q hq hx => ?_⟩
            obtain ⟨_, _, _, _, hrest⟩ := hg7
            have h1 := hrest q (by simp; omega) (by
              intro e
              refine hx (List.mem_append.2 (Or.inl ?_))
              rw [HO.hdn (by omega)]
              simp [e])
            rw [h1]
            exact old_alloc _ _ hq
          have e4 := (e2.away e3).less (Y := [] ++ ([w.heap.size, w.heap.size + 1] ++ Y)) (fun y hy => List.mem_append.2 (Or.inr (by simpa using hy)))
          have HN := Lib.hid (AppLoop.mk (Y := Y) (g := g) (cap := cap) (p := p) (bvv := .slice ab nb cb) (k := 1 + 1) (w := w) ((hb7.block _ (by omega)).trans hLz.blk) e4 (fun h => by omega) (fun h => by omega) ((hb7.block _ (by omega)).trans ((hLz.rest (w.heap.size + 1) (by omega)).trans (blk_on HO.res HBXY.out))) (fun h => by omega) ⟨_, hown7⟩ (HO.bel.trans ((HBXY.out.mono (by omega)).trans ((hLz.bel.mono (by omega)).trans (hb7.mono (by omega))))))
          clear hb7 HO e2 e3 e4 hown7 hg7 hsrc a0 a1 a2 gA3 hLz hA hdz hdy
          go_wp2
          go_roundw
          case rel => exact ⟨2, by omega, rfl, rfl, _, _, HN.out⟩
          case measure =>
            show cmdsN p - ((1 : Nat) + 1 : Int).toNat < cmdsN p - ((1 : Nat) : Int).toNat
            omega
      · have her2 : er = ek k := by
          rcases her with h | h
          · exact absurd h er0
          · exact h
        obtain ⟨xs, hdone⟩ := HOO.out.done
        obtain ⟨ad, cd, rfl, _⟩ := own_rw hdone
        have n1 : (er == 0) = false := by simpa using er0
        have n2 : (er != 0) = true := by simpa using er0
        have gR2 := blk_on HOO.out.res HBXY.out
        have HER := Lib.hid her2
        have HE0 := Lib.hid er0
        have H10 := Lib.hid h10
        clear her her2 er0 hdone
        go_wp2_with (first
          | (refine wpList_lay (by rfl) 27 (.tmp 2) (.tmp 44) rfl w.heap.size cs2.toArray (by rfl) (by rfl) 27 _ gD2 10 hi10 h10 hold10 hone2 ?_
             intro wz hLz
             have rz := range_of_block hLz.blk
             have hi2 : (Try.prog.info? 27).map (·.size) = some cs2.length := by
               have : cs2.length = 10 := by simpa using H10.out
               rw [this]
               exact hi10
             have gR3 := (hLz.rest (w.heap.size + 1) (by omega)).trans gR2
             clear gD2 h10 hold10 gR2)
          | refine wpList_load_at (by rfl) 27 (.tmp 2) rfl w.heap.size 0 (by rfl) cs2 _ rz Try.underlying27 rfl hi2 ?_
          | (refine wpList_lay (by rfl) 27 (.tmp 4) (.tmp 55) rfl (w.heap.size + 1) cs2.toArray (by rfl) (by rfl) 27 _ gR3 10 hi10 H10.out rfl hone2 ?_
             intro w9 hL9))
        try simp only [Exit.inBlock, Exit.then, Exit.noGoto_ret]
        refine bodyPost_ret (results_c4 rfl _ _ (w.heap.size + 1) _ _ _ 10 rfl hL9.blk Try.underlying27 rfl hi10 H10.out) rfl ?_
        exact app_mk cs2 0 0 er k (ds (k + 1)) ad cd rfl (((HDV.out.away (Away.laid hLz (by simp))).away (Away.laid hL9 (by simp))).less (fun y hy => by simp [hy])) (Or.inr ⟨HE0.out, k, hlt, HER.out, rfl, rfl, rfl, rfl⟩) (HOO.out.bel.trans ((HBXY.out.mono (by have := HA.out; omega)).trans ((hLz.bel.mono (by omega)).trans (hL9.bel.mono (by omega)))))
    · obtain rfl : k = cmdsN p := by omega
      obtain ⟨xs, hdone⟩ := HO.done
      obtain ⟨ad, cd, rfl, _⟩ := own_rw hdone
      have rz := range_of_block HO.dev
      have gR3 := HO.res
      have h10 := HO.is.is.ten
      have hone2 := HO.is.is.one
      have hi2 : (Try.prog.info? 27).map (·.size) = some cs1.length := by
        have : cs1.length = 10 := by simpa using h10
        rw [this]
        exact hi10
      have HOO := Lib.hid HO
      have H10 := Lib.hid h10
      clear HO hdone h10 HDO HP HH HD0
      go_wp2_with (first
        | refine wpList_load_at (by rfl) 27 (.tmp 2) rfl w.heap.size 0 (by rfl) cs1 _ rz Try.underlying27 rfl hi2 ?_
        | (refine wpList_lay (by rfl) 27 (.tmp 4) (.tmp 58) rfl (w.heap.size + 1) cs1.toArray (by rfl) (by rfl) 27 _ gR3 10 hi10 H10.out rfl hone2 ?_
           intro w9 hL9))
      try simp only [Exit.inBlock, Exit.then, Exit.noGoto_ret]
      refine bodyPost_ret (results_c4 rfl _ _ (w.heap.size + 1) _ _ _ 10 rfl hL9.blk Try.underlying27 rfl hi10 H10.out) rfl ?_
      exact app_mk cs1 p.zone p.at_ 0 (cmdsN p) (ds (cmdsN p)) ad cd rfl ((HOO.out.is.away (Away.laid hL9 (by simp))).less (fun y hy => by simp [hy])) (Or.inl ⟨rfl, rfl, rfl, rfl, rfl⟩) (HOO.out.bel.trans (hL9.bel.mono (by omega)))
end Go.Proofs.Ytdiokmaomglefaa
