/- LogNext: the walk. -/
import Derived.Test.YtdiokmaomglefaaLAwake
import Derived.Test.YtdiokmaomglefaaLSmall
import Derived.Test.YtdiokmaomglefaaLSameF
namespace Go.Proofs.Ytdiokmaomglefaa
open Go Go.RowKit

/-- A device that came in. -/
def RawDev (w : World) (cs : List Value) : Prop := ∃ size az cz zs r0 r1 f0 f1 n0 n1 m0 m1 down left fault done, RawD w cs size az cz zs r0 r1 f0 f1 n0 n1 m0 m1 down left fault done
theorem RawDev.below {w w' : World} {cs : List Value} (h : RawDev w cs) (hb : Below w.heap.size w w') : RawDev w' cs := by
  obtain ⟨size, az, cz, zs, r0, r1, f0, f1, n0, n1, m0, m1, down, left, fault, done, e, q0, q1, q2, q3, hcap, hle, hmax, hblk, hrow⟩ := h
  refine ⟨size, az, cz, zs, r0, r1, f0, f1, n0, n1, m0, m1, down, left, fault, done, e, q0.below hb, q1.below hb, q2.below hb, q3.below hb, hcap, hle, hmax, fun hne => ?_, fun b off ea j z hz => ?_⟩
  · obtain ⟨b, off, ea, hlt⟩ := hblk hne
    exact ⟨b, off, ea, Nat.lt_of_lt_of_le hlt hb.size⟩
  · obtain ⟨h1, h2⟩ := hrow b off ea j z hz
    obtain ⟨b', off', ea', hlt⟩ := hblk (by rintro rfl; simp at hz)
    rw [ea] at ea'
    cases ea'
    exact ⟨h1.below hb, range_below h2 hb hlt⟩
/-- Small: whether it is; then it reads as a device. -/
theorem smalld_any {w : World} {cs : List Value} (h : RawDev w cs) :
    Calls Try.prog 14 #[.agg cs.toArray] w fun e w' => (∃ b, e = .returned (.bool b) ∧ (b = true → ∃ d : Dv, DvIs w cs d ∧ d.zs.length ≤ 70 ∧ ∀ z ∈ d.zs, z.data.length ≤ 300)) ∧ Below w.heap.size w w' := by
  obtain ⟨size, az, cz, zs, r0, r1, f0, f1, n0, n1, m0, m1, down, left, fault, done, h⟩ := h
  refine (small_any h).mono ?_
  rintro e w' ⟨⟨b, he, hb⟩, hbe⟩
  refine ⟨⟨b, he, fun hbt => ?_⟩, hbe⟩
  obtain ⟨h1, h2, h3, h4, h5, h6⟩ := hb hbt
  obtain ⟨d, hd, hl, hz, _⟩ := h.is h2 h3 h4 h5 h6
  exact ⟨d, hd, by omega, hz⟩
theorem RawDev.ten {w : World} {cs : List Value} (h : RawDev w cs) : cs.length = 10 := by
  obtain ⟨size, az, cz, zs, r0, r1, f0, f1, n0, n1, m0, m1, down, left, fault, done, e, _⟩ := h
  rw [e]
  rfl
theorem flush_zs (d : Dv) : (flushD (tick d)).zs = d.zs.map flushZ := by
  simp [flushD, flushR1, flushR0, flushN, tick]
theorem frames_flush (zs : List Zn) : frames (zs.map flushZ) = frames zs := by
  have : ∀ i, framesFrom i (zs.map flushZ) = framesFrom i zs := by
    induction zs with
    | nil => intro i; rfl
    | cons z zs ih =>
      intro i
      have hz : zoneFs i (flushZ z) = zoneFs i z := rfl
      simp only [List.map_cons, framesFrom, ih, hz]
  exact this 0
theorem flush_ok {d : Dv} (h : devOk d = true) : devOk (flushD (tick d)) = true := by
  unfold devOk at h ⊢
  simp only [Bool.and_eq_true, decide_eq_true_eq] at h ⊢
  obtain ⟨⟨⟨h1, h2⟩, h3⟩, h4⟩ := h
  refine ⟨⟨⟨?_, ?_⟩, ?_⟩, h4⟩
  · rw [flush_zs, List.all_eq_true]
    intro z hz
    obtain ⟨y, hy, rfl⟩ := List.mem_map.1 hz
    have h5 := List.all_eq_true.1 h1 y hy
    show zoneOk d.size (flushZ y) = true
    unfold zoneOk at h5 ⊢
    simp only [Bool.and_eq_true, Bool.not_eq_true', decide_eq_false_iff_not, decide_eq_true_eq] at h5 ⊢
    rw [show (flushZ y).data = y.data from rfl, show (flushZ y).st = y.st from rfl, show (flushZ y).lasts = y.data.length from rfl]
    omega
  · unfold rootsOk at h2 ⊢
    simp only [decide_eq_true_eq] at h2 ⊢
    simp only [flushD, flushR1, flushR0, flushN, tick]
    refine ⟨?_, .inl rfl, ?_, .inl rfl⟩
    · by_cases h5 : d.f0.length = 0 <;> simp only [h5, if_true, if_false] <;> omega
    · by_cases h5 : d.f1.length = 0 <;> simp only [h5, if_true, if_false] <;> omega
  · rw [flush_zs, List.length_map]
    exact h3
theorem next_hit (l : List Fd) (hne : l ≠ []) (hs : ∀ f ∈ l, 0 ≤ f.hd.seq) : ∃ f ∈ l, f.hd.seq = nextOf l - 1 := by
  unfold nextOf
  have key : ∀ (l : List Fd) (n : Int), 0 ≤ n → (∀ f ∈ l, 0 ≤ f.hd.seq) → (l.foldl (fun n f => max n (f.hd.seq + 1)) n = n ∨ ∃ f ∈ l, f.hd.seq = l.foldl (fun n f => max n (f.hd.seq + 1)) n - 1) ∧ n ≤ l.foldl (fun n f => max n (f.hd.seq + 1)) n ∧ ∀ f ∈ l, f.hd.seq + 1 ≤ l.foldl (fun n f => max n (f.hd.seq + 1)) n := by
    intro l
    induction l with
    | nil => intro n _ _; exact ⟨.inl rfl, Int.le_refl _, by simp⟩
    | cons f l ih =>
      intro n hn h
      obtain ⟨h1, h2, h3⟩ := ih (max n (f.hd.seq + 1)) (by omega) (fun g hg => h g (List.mem_cons_of_mem _ hg))
      simp only [List.foldl_cons]
      generalize l.foldl (fun n f => max n (f.hd.seq + 1)) (max n (f.hd.seq + 1)) = m at *
      refine ⟨?_, by omega, ?_⟩
      · rcases h1 with h1 | ⟨g, hg, h1⟩
        · by_cases hc : n ≤ f.hd.seq
          · exact .inr ⟨f, List.mem_cons_self, by omega⟩
          · exact .inl (by omega)
        · exact .inr ⟨g, List.mem_cons_of_mem _ hg, h1⟩
      · intro g hg
        rcases List.mem_cons.1 hg with rfl | hg
        · omega
        · exact h3 g hg
  obtain ⟨h1, h2, h3⟩ := key l 0 (by omega) hs
  rcases h1 with h1 | h1
  · obtain ⟨f, hf⟩ := List.exists_mem_of_ne_nil l hne
    have := h3 f hf
    have := hs f hf
    omega
  · exact h1
theorem frames_seq {zs : List Zn} {f : Fd} (h : f ∈ frames zs) : 0 ≤ f.hd.seq ∧ f.hd.seq ≤ 4611686018427387903 := by
  obtain ⟨z, _, _, h1, _⟩ := frames_mem h
  obtain ⟨_, h2, _⟩ := readH_ok h1
  exact (hdOk_len h2).2.2
set_option linter.unusedSimpArgs false in
set_option linter.unusedVariables false in
set_option maxRecDepth 100000 in
set_option maxHeartbeats 8000000 in
theorem logNext_walk (cs : List Value) (w : World) (h : RawDev w cs) :
    Calls Try.prog 4 #[.agg cs.toArray] w fun e w' => e = .returned (.bool true) ∧ Below w.heap.size w w' := by
  have hi10 : (Try.prog.info? 27).map (·.size) = some 10 := by kernel_rfl
  have hlc : (Try.prog.info? 27).map (·.size) = some cs.length := by rw [hi10, h.ten]
  have HR := Lib.hid h
  clear h
  go_enter Try.func4, Try.ntmps4
  go_wp2_with fail
  refine calls_world (fun w0 e0 => ?_)
  obtain ⟨g0, hb0, hs0⟩ := one_alloc e0
  clear e0
  refine (awake_any w0).mono ?_
  rintro e w1 ⟨rfl, hb1⟩
  have HG1 := Lib.hid (blk_on g0 hb1)
  have HB1 := Lib.hid (hb0.trans (hb1.mono (by omega)))
  have r1 := range_of_block (cs := cs) HG1.out
  clear g0 hb0 hs0 hb1
  go_wp2_with (first
    | refine wpList_load_at (by rfl) 27 (.tmp 1) rfl w.heap.size 0 (by rfl) cs _ r1 Try.underlying27 rfl hlc ?_
    | fail)
  refine (smalld_any (HR.out.below HB1.out)).mono ?_
  rintro e w2 ⟨⟨sb, rfl, hsb⟩, hb2⟩
  have HG2 := Lib.hid (blk_on HG1.out hb2)
  have HB2 := Lib.hid (HB1.out.trans (hb2.mono HB1.out.size))
  have HSB := Lib.hid hsb
  have HBB := Lib.hid hb2
  clear hb2 r1 hsb
  cases sb
  · go_wp2
    refine bodyPost_ret (results_tmp rfl _ _ _) rfl ?_
    exact ⟨rfl, HB2.out⟩
  obtain ⟨d, hd1, _, _⟩ := HSB.out rfl
  have hd := hd1.below HBB.out
  obtain ⟨vz, q0, q1, q2, q3, hcs, _⟩ := id hd
  have r2 := range_of_block (cs := cs) HG2.out
  have HD2 := Lib.hid hd
  have HCS := Lib.hid hcs
  clear hd1 hd hcs HBB HSB HB1 HG1 HR
  go_wp2_with (first
    | refine wpList_load_at (by rfl) 27 (.tmp 1) rfl w.heap.size 0 (by rfl) cs _ r2 Try.underlying27 rfl hlc ?_
    | fail)
  refine (dcheck_any d cs w2 HD2.out).mono ?_
  rintro e w3 ⟨rfl, hb3⟩
  have HG3 := Lib.hid (blk_on HG2.out hb3)
  have HB3 := Lib.hid (HB2.out.trans (hb3.mono HB2.out.size))
  have HD3 := Lib.hid (HD2.out.below hb3)
  have c6 : w3.cell? ⟨w.heap.size, 6, none⟩ = some (.bool d.down) := (cell_of_block HG3.out 6).trans (by rw [HCS.out]; rfl)
  have c7 : w3.cell? ⟨w.heap.size, 7, none⟩ = some (.int .i64 d.left) := (cell_of_block HG3.out 7).trans (by rw [HCS.out]; rfl)
  have c8 : w3.cell? ⟨w.heap.size, 8, none⟩ = some (.int .i64 d.fault) := (cell_of_block HG3.out 8).trans (by rw [HCS.out]; rfl)
  clear hb3 r2 HG2 HB2 HD2
  cases hok : devOk d
  · go_wp2
    refine bodyPost_ret (results_tmp rfl _ _ _) rfl ?_
    exact ⟨rfl, HB3.out⟩
  have HOK := Lib.hid hok
  clear hok
  cases hdn : d.down
  rotate_left
  · rw [hdn] at c6
    clear hdn
    go_wp2
    refine bodyPost_ret (results_tmp rfl _ _ _) rfl ?_
    exact ⟨rfl, HB3.out⟩
  rw [hdn] at c6
  have HDN := Lib.hid hdn
  clear hdn
  by_cases hlf : 0 ≤ d.left
  · have e1 : decide (0 ≤ d.left) = true := decide_eq_true hlf
    go_wp2
    refine bodyPost_ret (results_tmp rfl _ _ _) rfl ?_
    exact ⟨rfl, HB3.out⟩
  have e1 : decide (0 ≤ d.left) = false := decide_eq_false hlf
  by_cases hff : 0 ≤ d.fault
  · have e2 : decide (0 ≤ d.fault) = true := decide_eq_true hff
    go_wp2
    refine bodyPost_ret (results_tmp rfl _ _ _) rfl ?_
    exact ⟨rfl, HB3.out⟩
  have e2 : decide (0 ≤ d.fault) = false := decide_eq_false hff
  have HFR := Lib.hid (show Free d from ⟨HOK.out, HDN.out, by omega, by omega⟩)
  have r3 := range_of_block (cs := cs) HG3.out
  go_wp2_with (first
    | refine wpList_load_at (by rfl) 27 (.tmp 1) rfl w.heap.size 0 (by rfl) cs _ r3 Try.underlying27 rfl hlc ?_
    | fail)
  clear e1 e2 c6 c7 c8 hlf hff
  refine (all_any d cs w3 HD3.out HOK.out).mono ?_
  rintro e w4 ⟨⟨a4, k4, l, rfl, hp4, ho4, hr4⟩, hb4⟩
  have HG4 := Lib.hid (blk_on HG3.out hb4)
  have HB4 := Lib.hid (HB3.out.trans (hb4.mono HB3.out.size))
  have HD4 := Lib.hid (HD3.out.below hb4)
  have HP4 := Lib.hid hp4
  have HO4 := Lib.hid ho4
  have HR4 := Lib.hid hr4
  have r4 := range_of_block (cs := cs) HG4.out
  clear hb4 r3 HG3 HB3 HD3 hp4 ho4 hr4
  go_wp2_with (first
    | refine wpList_load_at (by rfl) 27 (.tmp 1) rfl w.heap.size 0 (by rfl) cs _ r4 Try.underlying27 rfl hlc ?_
    | fail)
  refine (do_flush [] d cs w4 (DvO.of HD4.out (by simp)) (by simp) HFR.out 0 none 0 0).mono ?_
  rintro e w5 ⟨⟨cx, rfl, hx5⟩, hb5⟩
  have HB5 := Lib.hid (HB4.out.trans (hb5.mono HB4.out.size))
  have HR5 := Lib.hid (HR4.out.below hb5)
  have HX5 := Lib.hid hx5.is
  have hten5 := hx5.is.ten
  have hone5 := hx5.is.one
  have hlx : (Try.prog.info? 27).map (·.size) = some cx.length := by rw [hi10, ← hten5]; rfl
  clear hb5 hx5 r4 HG4 HB4 HD4 HR4
  go_wp2_with (first
    | (refine wpList_lay (by rfl) 27 (.tmp 6) (.tmp 46) (by rfl) w5.heap.size cx.toArray (by rfl) (by rfl) _ _ (heap_alloc_new w5 _) 10 hi10 hten5 (by rfl) hone5 ?_
       intro w6 hL6
       have r6 := range_of_block (cs := cx) hL6.blk
       have HL6 := Lib.hid hL6
       clear hL6)
    | refine wpList_load_at (by rfl) 27 (.tmp 6) rfl w5.heap.size 0 (by rfl) cx _ r6 Try.underlying27 rfl hlx ?_
    | fail)
  have hb56 : Below w5.heap.size w5 w6 := ((Below.refl _ w5).alloc (Nat.le_refl _) _).trans HL6.out.bel
  have HB6 := Lib.hid (HB5.out.trans (hb56.mono HB5.out.size))
  have HR6 := Lib.hid (HR5.out.below hb56)
  have HX6 := Lib.hid (HX5.out.below hb56)
  clear hb56 HL6 HX5 HB5 HR5 r6 hten5 hone5
  refine (all_any (flushD (tick d)) cx w6 HX6.out (flush_ok HOK.out)).mono ?_
  rintro e w7 ⟨⟨a7, k7, l2, rfl, hp7, ho7, hr7⟩, hb7⟩
  rw [flush_zs, frames_flush] at hp7
  have hll : l2 = l := order_one hp7 HP4.out ho7 HO4.out
  subst hll
  have HB7 := Lib.hid (HB6.out.trans (hb7.mono HB6.out.size))
  have HR7 := Lib.hid (HR6.out.below hb7)
  have HS7 := Lib.hid hr7
  have HSQ := Lib.hid (show ∀ f ∈ l2, 0 ≤ f.hd.seq ∧ f.hd.seq ≤ 4611686018427387903 from fun f hf => frames_seq (hp7.mem_iff.1 hf))
  have hbig := hr7.len.2.2
  unfold maxLen at hbig
  clear hb7 HB6 HR6 HX6 hp7 ho7 hr7 HP4 HO4 HFR HOK HDN
  go_wp2_with fail
  refine (next_any a4 k4 l2 HSQ.out w7 HR7.out).mono ?_
  rintro e w8 ⟨rfl, hb8⟩
  have HB8 := Lib.hid (HB7.out.trans (hb8.mono HB7.out.size))
  have HR8 := Lib.hid (HR7.out.below hb8)
  have HS8 := Lib.hid (HS7.out.below hb8)
  clear hb8 HB7 HR7 HS7
  obtain ⟨n, hn⟩ : ∃ n, nextOf l2 = n := ⟨_, rfl⟩
  have hn0 := next_nn l2
  have hn1 := next_le l2 4611686018427387904 (by omega) (fun f hf => by have := (HSQ.out f hf).2; omega)
  have hhit := next_hit l2
  have hnil : l2 = [] → nextOf l2 = 0 := by rintro rfl; rfl
  rw [hn] at hn0 hn1 hhit hnil ⊢
  have HHI := Lib.hid hhit
  have HNI := Lib.hid hnil
  have ew : IntKind.i64.wrap (n - 1) = n - 1 := IntWalk.i64_in _ (by omega)
  clear hn hhit hnil
  go_wp2
  refine code_world (fun w9 e9 => ?_)
  obtain rfl : w8 = w9 := by simpa using e9.symm
  clear e9
  go_loopw [11, 12] (fun at_ i wr => ∃ j : Nat, j ≤ l2.length ∧ i = .int .i64 j ∧ at_ = .bool ((l2.take j).any fun f => f.hd.seq == n - 1) ∧ wr = w8) (fun _ i _ => l2.length - (intOf i).toNat)
  case atStart => exact ⟨0, by omega, rfl, rfl, rfl⟩
  case round =>
    obtain ⟨j, hj, rfl, rfl, hwr⟩ := hrel
    obtain rfl := hwr
    by_cases hlt : j < l2.length
    · have hjz : l2[j]? = some l2[j] := List.getElem?_eq_getElem hlt
      obtain ⟨b, off, rfl, hbl, hr0⟩ := HR8.out.where (by omega)
      have hra := range_part hr0 (fcells_at l2 j l2[j] hjz)
      have hany : (l2.take (j + 1)).any (fun f => f.hd.seq == n - 1) = ((l2.take j).any (fun f => f.hd.seq == n - 1) || (l2[j].hd.seq == n - 1)) := by
        rw [List.take_add_one, hjz, List.any_append]
        simp only [Option.toList_some, List.any_cons, List.any_nil, Bool.or_false]
      have hc3 : wr.cell? ⟨b, off + j * 7 + 3, none⟩ = some (.int .i64 l2[j].hd.seq) := hra 3 _ rfl
      generalize l2[j] = y at hjz hra hany hc3
      have HAN := Lib.hid hany
      have i1 : (0 : Int) ≤ (j : Int) := by omega
      have i2 : (j : Int) < (l2.length : Int) := by omega
      have e1 : IntKind.i64.wrap ((j : Int) + 1) = (j : Int) + 1 := IntWalk.i64_in _ (by omega)
      clear hjz hr0 hra hany hbl
      cases hA : (l2.take j).any (fun f => f.hd.seq == n - 1)
      · rw [hA] at HAN
        clear hA
        go_wp2
        exact ⟨⟨j + 1, by omega, rfl, by rw [HAN.out]; simp, by simp⟩, by show l2.length - ((j : Int) + 1).toNat < l2.length - (j : Int).toNat; omega⟩
      · rw [hA] at HAN
        clear hA
        go_wp2
        exact ⟨⟨j + 1, by omega, rfl, by rw [HAN.out]; simp, by simp⟩, by show l2.length - ((j : Int) + 1).toNat < l2.length - (j : Int).toNat; omega⟩
    · have hje : j = l2.length := by omega
      subst hje
      rw [List.take_length]
      have hn2 : decide ((l2.length : Int) < (l2.length : Int)) = false := decide_eq_false (by omega)
      have hsm := fsame_refl a4 a7 k4 k7 l2 wr HR8.out HS8.out
      have HSM := Lib.hid hsm
      clear hsm
      by_cases hl0 : l2 = []
      · have hn00 := HNI.out hl0
        subst hn00
        have hl00 : ((l2.length : Int) == 0) = true := by rw [hl0]; rfl
        have HL0 := Lib.hid hl0
        clear hl0
        generalize (l2.any fun f => f.hd.seq == 0 - 1) = at_
        go_wp2_with fail
        refine HSM.out.mono ?_
        rintro e w10 ⟨rfl, hb10⟩
        have HB10 := Lib.hid (HB8.out.trans (hb10.mono HB8.out.size))
        clear hb10
        go_wp2
        go_ret
        exact ⟨rfl, HB10.out⟩
      · have hl00 : ((l2.length : Int) == 0) = false := by
          rw [beq_eq_false_iff_ne]
          have := List.length_pos_iff.2 hl0
          omega
        have hat : (l2.any fun f => f.hd.seq == n - 1) = true := by
          obtain ⟨f, hf, hfe⟩ := HHI.out hl0 (fun f hf => (HSQ.out f hf).1)
          rw [List.any_eq_true]
          exact ⟨f, hf, by simp [hfe]⟩
        rw [hat]
        clear hat
        go_wp2_with fail
        refine HSM.out.mono ?_
        rintro e w10 ⟨rfl, hb10⟩
        have HB10 := Lib.hid (HB8.out.trans (hb10.mono HB8.out.size))
        clear hb10
        go_wp2
        go_ret
        exact ⟨rfl, HB10.out⟩
end Go.Proofs.Ytdiokmaomglefaa
