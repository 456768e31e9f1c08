/- The law FoldPlays. -/
import Derived.Test.YtpmmapcjohmniaaGreatPlay
import Derived.Test.YtpmmapcjohmniaaGreatFound
import Derived.Test.YtpmmapcjohmniaaGreatOpF
import Derived.Test.YtpmmapcjohmniaaGreatDefAt
import Derived.Deep.DeepCutAuto
namespace Go.Proofs.YtpmmapcjohmniaaGreat
open Go Go.RowKit
set_option linter.unusedSimpArgs false
set_option linter.unusedVariables false

/-- The events' row, and one of it. -/
structure EvB (S : Nat → Prop) (A : Option Addr) (n c : Nat) (fl : List EvV) (b o : Nat) (T : Option Addr) (t1 t2 : Nat) (U : Option Addr) (u1 u2 : Nat) (e : EvV) (W : World) : Prop where
  at_ : EvAt W S b o T t1 t2 U u1 u2 e
  row : SlR REv W (Out S W) A n c fl
section
variable {W W' : World} {S : Nat → Prop} {A : Option Addr} {n c : Nat} {fl : List EvV} {b o : Nat} {T U : Option Addr} {t1 t2 u1 u2 : Nat} {e : EvV}
theorem EvB.cells (h : EvB S A n c fl b o T t1 t2 U u1 u2 e W) : W.cell? ⟨b, o, none⟩ = some (.string (str e.st)) ∧ W.cell? ⟨b, o + 1, none⟩ = some (.string (str e.ty)) ∧ W.cell? ⟨b, o + 2, none⟩ = some (.slice T t1 t2) ∧ W.cell? ⟨b, o + 3, none⟩ = some (.slice U u1 u2) ∧ True := h.at_.cells
theorem EvB.kept {a d : Nat} (h : EvB S A n c fl b o T t1 t2 U u1 u2 e W) (hk : Kept2 a d W W') (ha : S a) (hd : S d) : EvB S A n c fl b o T t1 t2 U u1 u2 e W' := ⟨h.at_.kept hk ha hd, slR_kept h.row hk ha hd⟩
theorem EvB.ext (h : EvB S A n c fl b o T t1 t2 U u1 u2 e W) (hE : Ext W W') : EvB S A n c fl b o T t1 t2 U u1 u2 e W' := ⟨h.at_.ext hE, slR_more h.row hE fun _ hk => .inl hk⟩
end
/-- Where both stand. -/
structure CutIs (n0 y : Nat) (d : DefV) (w : World) (A : Option Addr) (n c : Nat) (fl : List EvV) (D : Ents) (sv : Value) (wx : World) : Prop where
  ex : ∃ S s m, sv = .pointer (some ⟨s, 0, none⟩) ∧ PlayIs n0 S s m y d w wx D D ∧ SlR REv wx (Out S wx) A n c fl
def entsV (D : Ents) : SPred := ⟨fun v w => ∃ A c, v = .slice A D.length c ∧ SlR REnt w (· < w.heap.size) A D.length c D, fun _ _ _ ⟨A, c, h1, h2⟩ hE => ⟨A, c, h1, h2.grow hE⟩⟩
set_option maxRecDepth 100000 in
set_option maxHeartbeats 8000000 in
theorem foldPlays_in (kd : Int) (fd : Str) (A : Option Addr) (n c : Nat) (q : List ClV) (A1 : Option Addr) (n1 c1 : Nat) (l : Ents) (A2 : Option Addr) (n2 c2 : Nat) (mm : List EvV) (w : World) (hkd : I64 kd) (hfd : Short fd) (hq : SlR RCl w (· < w.heap.size) A n c q) (hl : SlR REntI w (· < w.heap.size) A1 n1 c1 l) (hm : SlR REv w (· < w.heap.size) A2 n2 c2 mm) :
    Calls Tryz.prog 3 #[.agg #[.int .i64 kd, .string (str fd), .slice A n c], .slice A1 n1 c1, .slice A2 n2 c2] w fun e w' => e = .returned (.bool true) ∧ Below w.heap.size w w' := by
  obtain ⟨d, rfl, rfl, rfl⟩ : ∃ d : DefV, kd = d.kind ∧ fd = d.field ∧ q = d.q := ⟨⟨kd, fd, q⟩, rfl, rfl, rfl⟩
  have hn := hid hq.1
  have hnc := hq.2.1
  have hcm := hq.2.2.1
  have Hq := hid (show SlR RCl w (· < w.heap.size) A d.q.length c d.q by have := hq; rw [hq.1] at this; exact this)
  have Hl := hid (slR_such hl); have Hm := hid hm
  clear hq hl hm hkd hfd
  go_enter Tryz.func3, Tryz.ntmps3
  have HE0 := hid (ext_alloc w (.cells #[.int .i64 d.kind, .string (str d.field), .slice A n c] 26))
  have Hbx := hid (show DefBox w.heap.size d A n c (w.alloc (.cells #[.int .i64 d.kind, .string (str d.field), .slice A n c] 26)) from heap_alloc_last _ _)
  go_wp2_with fail
  refine (shown_at _).mono ?_
  rintro e w0 ⟨rfl, hE0⟩
  have HE1 := hid (HE0.out.trans' hE0)
  have Hb1 := hid (Hbx.out.ext hE0)
  clear hE0
  obtain ⟨b0, b1, b2⟩ := Hb1.out.cells
  have fz := Hb1.out.free 2
  go_upto_if 19 with (fail)
  go_cut [7] (fun h wx => h = .bool true ∧ Hid (DefAt w (cut8 d) A c wx))
  case first =>
    by_cases h8 : 8 < n
    · have h8' : (8 : Int) < (n : Int) := by omega
      have HD := hid (DefAt.long (by rw [← hn.out]; exact Hb1.out) Hq.out HE1.out (by have := hn.out; omega))
      have g8 : (8 : Int) ≤ (c : Int) := by omega
      go_wp2_with fail
      go_meet
      case rel => exact ⟨rfl, HD⟩
    · have h8' : ¬ ((8 : Int) < (n : Int)) := by omega
      have HD := hid (DefAt.short (by rw [← hn.out]; exact Hb1.out) Hq.out HE1.out (by have := hn.out; omega))
      go_wp2_with fail
      go_meet
      case rel => exact ⟨rfl, HD⟩
  case rest =>
  obtain ⟨rfl, HD⟩ := hcut
  clear HE0 Hbx HE1 Hb1 b0 b1 b2 fz
  obtain ⟨d0, d1, d2⟩ := HD.out.box.cells
  have Hq8 := hid (HD.out.q.grow' HD.out.ext.size)
  generalize hd8 : cut8 d = d8 at *
  clear hd8
  generalize hn8 : d8.q.length = n8 at d2 Hq8
  have Hn8 := hid hn8; clear hn8
  have HDb := hid (show DefBox w.heap.size d8 A n8 c wc from by have := HD.out.box; rwa [Hn8.out] at this)
  have HQ := hid (show SlR RCl wc (· < w.heap.size) A n8 c d8.q from by have := HD.out.q; rwa [Hn8.out] at this)
  have HDe := hid HD.out.ext
  clear hn hnc hcm HD
  go_wp2_with fail
  have hnew := foldNew_at (d := d8) Hq8.out
  unfold defVal at hnew
  refine hnew.mono ?_
  clear hnew d0 d1 d2
  rintro e w1 ⟨hEb, hres⟩
  have HEa := hid hEb
  clear hEb
  obtain ⟨d0, d1, d2⟩ := (HDb.out.ext HEa.out).cells
  have hsz0 := HDe.out.size
  have hsz1 := HEa.out.size
  have hcc := refNew_at (d := d8) (n0 := w.heap.size) (w := w1) (HQ.out.ext fun k hk => HEa.out.block k (Nat.lt_of_lt_of_le hk hsz0)) (by omega)
  unfold defVal at hcc
  rcases hres with ⟨hne, rfl⟩ | ⟨Hok, s, m, rfl, hss, hms, hN⟩
  · go_wp2_with fail
    refine hcc.mono ?_
    clear hcc d0 d1 d2
    rintro e w2 ⟨hE2, hres2⟩
    rcases hres2 with ⟨-, rfl⟩ | ⟨h0, -⟩
    rotate_left
    · exact absurd h0 hne
    have HE2 := hid (HDe.out.trans' (HEa.out.trans' hE2))
    clear hE2
    generalize mayDef d8 = me at *
    have hx : (me != 0) = true := by simpa using hne
    have hx2 : (me == 0) = false := by simpa using hne
    go_wp2
    go_ret
    exact ⟨rfl, HE2.out⟩
  go_wp2_with fail
  refine hcc.mono ?_
  clear hcc d0 d1 d2
  rintro e w2 ⟨hE2, hres2⟩
  rcases hres2 with ⟨h, -⟩ | ⟨-, y, rfl, hys, hR⟩
  · exact absurd Hok h
  have HP := hid (show PlayIs w.heap.size (fun k => k = s ∨ k = m ∨ k = y) s m y d8 w w2 [] [] from by
    have hlt := hN.lt
    have hR2 := hR (fun k => k = s ∨ k = m ∨ k = y) (fun k hk => by rcases hk with h | h | h <;> omega) (.inr (.inr rfl))
    have hylt := hR2.lt
    have hs2 := hE2.size
    refine ⟨(hN.is (S := fun k => k = s ∨ k = m) (fun k hk => .inr hk) (.inl rfl) (.inr rfl)).more hE2 (fun k hk => ?_) (.inl rfl) (.inr (.inl rfl)), hR2, fun k hk => ?_, ⟨by omega, by omega⟩, HDe.out.trans' (HEa.out.trans' hE2)⟩
    · rcases hk with h | h | h
      · exact .inl (.inl h)
      · exact .inl (.inr h)
      · right; omega
    · rcases hk with h | h | h <;> omega)
  have Hmk := hid (may_kind Hok)
  clear hR hys hE2 hN hss hms Hok HEa HDb HQ Hq8 HDe hsz0 hsz1 Hq
  go_wp2_with fail
  refine (lawEntries_at (Hl.out.1.ext fun k hk => HP.out.B.block k hk)).mono ?_
  rintro e w3 ⟨n1', c1', rfl, hl1, rfl⟩
  have HL1 := hid hl1
  clear hl1
  have Hil := hid (show ∀ p ∈ firstE l, I64 p.2 from fun p hp => Hl.out.2 p (List.mem_of_mem_take hp))
  have hll : (firstE l).length ≤ 30 := by unfold firstE; rw [List.length_take]; omega
  generalize hfe : firstE l = fl1 at *
  have Hfe := hid hfe
  clear hfe
  go_wp2_with fail
  refine (load_at HP.out.St (HL1.out.mono fun k hk => ⟨Nat.lt_of_lt_of_le hk HP.out.sz, fun h => by have := (HP.out.lo k h).1; omega⟩) (by omega) Hil.out).mono ?_
  rintro e w4 ⟨rfl, ⟨m2, hm2, hS2⟩, hK2⟩
  have HP4 := hid (HP.out.load hm2 hS2 hK2)
  clear hS2 hK2 hm2 HP HL1
  go_wp2_with fail
  refine (lawEntries_at (Hl.out.1.ext fun k hk => HP4.out.B.block k hk)).mono ?_
  rintro e w5 ⟨n1'', c1'', rfl, hl1, rfl⟩
  rw [Hfe.out] at hl1
  have HL1 := hid hl1
  clear hl1
  go_wp2_with fail
  refine (refLoad_at HP4.out.Rf (HL1.out.mono fun k hk => ⟨Nat.lt_of_lt_of_le hk HP4.out.sz, fun h => by have := (HP4.out.lo k h).1; omega⟩) (by omega) (fun k hk => (HP4.out.lo k hk).2)).mono ?_
  rintro e w6 ⟨rfl, hR6, hK6⟩
  have HP6 := hid (HP4.out.stepR hR6 hK6)
  clear hR6 hK6 HP4 HL1
  generalize (fun k => (k = s ∨ k = m ∨ k = y) ∨ k = m2) = S0 at *
  generalize loadE d8 fl1 = le
  go_wp2_with fail
  refine (few_at (Hm.out.ext fun k hk => HP6.out.B.block k hk) (fun k hk => Nat.lt_of_lt_of_le hk HP6.out.sz)).mono ?_
  rintro e wF ⟨v, rfl, hO, hE⟩
  obtain ⟨AF, cF, rfl, hRF⟩ := ownK_out (S := S0) hO (fun k hk => ⟨Nat.lt_of_lt_of_le hk (Nat.le_trans HP6.out.sz hE.size), fun h => by have := (HP6.out.lo k h).1; omega⟩) (fun k hk => (HP6.out.lo k hk).2)
  have HC := hid (show CutIs w.heap.size y d8 w AF (fewF mm).length cF (fewF mm) (foldE d8 (loadF d8 fl1 []) ((fewF mm).take 0)) (.pointer (some ⟨s, 0, none⟩)) wF from ⟨S0, s, m2, rfl, HP6.out.ext hE, hRF⟩)
  have Hsm := hid (show ∀ e ∈ fewF mm, SmallE e from fun e he => small_may (few_may he))
  have hfl := few_len mm
  have hncF := hRF.2.1
  have hcmF := hRF.2.2.1
  have Hpo := hid (fun j hj => play_ok (d := d8) (l := fl1) Hsm.out hll j hj)
  clear hO hE hRF HP6 hll Hfe Hil
  generalize fewF mm = fl at *
  generalize loadF d8 fl1 [] = D0 at *
  generalize hnn : fl.length = nF at *
  have HnF := hid hnn
  clear hnn
  go_wp2_with fail
  clear Hl Hm Hn8
  go_loopw [8, 12] (fun sv i wr => ∃ j : Nat, j ≤ nF ∧ i = .int .i64 (j : Int) ∧ Hid (CutIs w.heap.size y d8 w AF nF cF fl (foldE d8 D0 (fl.take j)) sv wr)) (fun _ i _ => nF - (intOf i).toNat)
  case atStart => exact ⟨0, by omega, rfl, HC⟩
  case round =>
    obtain ⟨j, hj, rfl, HI⟩ := hrel
    clear HC
    obtain ⟨S, s', m', rfl, hP, hR⟩ := HI.out
    have HP := hid hP; have HR := hid hR
    clear hP hR
    by_cases hlt : j < nF
    · have hjx : j < fl.length := by have := HnF.out; omega
      have hlt' : (j : Int) < (nF : Int) := by omega
      have hk00 : ¬ ((j : Int) < 0) := by omega
      have hk0 : (0 : Int) ≤ (j : Int) := by omega
      have Hpj := hid (Hpo.out j hj)
      have Hse := hid (Hsm.out _ (List.getElem_mem hjx))
      have Hda := hid (foldE_take d8 D0 hjx)
      have hpl := Hpj.out.len
      have hpf := hid (Hpj.out.fit.le (show (1125899906842624 + 1000 * (j : Int) : Int) ≤ 2305843009213693952 by omega))
      generalize foldE d8 D0 (fl.take j) = D1 at *
      go_upto_if 68 with (fail)
      go_cut [8] (fun sv wx => Hid (CutIs w.heap.size y d8 w AF nF cF fl D1 sv wx))
      case first =>
        by_cases h9 : (j : Int) % 9 = 8
        · have hf0 : 0 < fl.length := by omega
          have h00 : (0 : Int) < (nF : Int) := by omega
          have h9b : ((j : Int) % 9 == 8) = true := beq_iff_eq.2 h9
          have Hs0 := hid (Hsm.out _ (List.getElem_mem hf0))
          go_wp2_with fail
          refine (foldClone_at HP.out.St).mono ?_
          rintro e w7 ⟨s2, m2', rfl, hs2, hm2, hS2, hE2⟩
          obtain ⟨hP2, hOld⟩ := HP.out.clone hs2 hm2 hS2 hE2
          have HP2 := hid hP2; have HOld := hid hOld
          have HR2 := hid (slR_more HR.out hE2 (S' := fun k => S k ∨ k = s2 ∨ k = m2') (fun k hk => by
            rcases hk with h | h | h
            · exact .inl h
            · right; omega
            · right; omega))
          have hlt2 := HP.out.St.lt
          clear hP2 hOld hS2 hE2
          obtain ⟨b0, o0, T, t1, t2, U, u1, u2, rfl, hev⟩ := evAt HR2.out 0 hf0
          simp only [Nat.zero_mul, Nat.add_zero] at hev
          have Hev := hid hev
          obtain ⟨f0, f1, f2, f3, -⟩ := hev.cells
          clear hev
          go_wp2_with fail
          have hst := step_at (p := 0) (vr := 0) HOld.out Hev.out.ev Hs0.out (by omega) hpf.out
          unfold recVal at hst
          refine hst.mono ?_
          clear hst f0 f1 f2 f3
          rintro x w8 ⟨rfl, hS8, hK8⟩
          have HP8 := hid (HP2.out.beside hK8 (.inl HP.out.St.sIn) (.inl HP.out.St.mIn) ⟨by omega, by omega, by omega, by omega⟩ ⟨fun e => HP.out.ne.1 e.symm, fun e => HP.out.ne.2 e.symm⟩)
          have HR8 := hid (slR_kept HR2.out hK8 (.inl HP.out.St.sIn) (.inl HP.out.St.mIn))
          clear hS8 hK8 HP2 HOld HR2 Hev
          generalize (StepF d8 fl[0] D1).1 = z0
          go_wp2_with fail
          go_meet
          case rel => exact hid ⟨_, s2, m2', rfl, HP8.out, HR8.out⟩
        · have h9b : ((j : Int) % 9 == 8) = false := beq_eq_false_iff_ne.2 h9
          go_wp2_with fail
          go_meet
          case rel => exact HI
      case rest =>
      obtain ⟨S1, s1, m1, rfl, hP, hR⟩ := hcut.out
      clear HI HP HR hcut
      have HP := hid hP; have HR := hid hR
      clear hP hR
      obtain ⟨b0, o0, T, t1, t2, U, u1, u2, hAF, hev⟩ := evAt HR.out j hjx
      subst hAF
      have Hev := hid (show EvB S1 (some ⟨b0, o0, none⟩) nF cF fl b0 (o0 + j * 4) T t1 t2 U u1 u2 fl[j] wc from ⟨hev, HR.out⟩)
      clear hev
      have hw : IntKind.i64.wrap ((j : Int) + 1) = (j : Int) + 1 := by rw [IntKind.wrap_i64]; omega
      have Hw := hid hw
      clear hw
      generalize fl[j] = e at *
      generalize hz : (StepF d8 e D1).1 = z at *
      generalize hD2 : (StepF d8 e D1).2 = D2 at *
      have Hz := hid hz; have HD2 := hid hD2
      clear hz hD2
      go_wp2_with fail
      apply wp_drawn_ph 8 17 (EvB S1 (some ⟨b0, o0, none⟩) nF cF fl b0 (o0 + j * 4) T t1 t2 U u1 u2 e) (fun W => PlayIs w.heap.size S1 s1 m1 y d8 w W D1 D1) (fun W => PlayIs w.heap.size S1 s1 m1 y d8 w W D2 D1) (fun W => PlayIs w.heap.size S1 s1 m1 y d8 w W D2 D2) [isV _, isV _, isV (.int .i64 ((j : Int) + 1)), isV _, isV _, isV _, isV _, isV _, isV (.int .i64 z), isV _, isV _, isV (.int .i64 ((j : Int) + 1)), isV _, isV _, isV _, isV _, isV _, isV (.int .i64 z), isV (.bool false)] (by kernel_rfl)
      · kernel_rfl
      · kernel_rfl
      · intro W hE
        exact ⟨Hev.out.ext hE, HP.out.ext hE⟩
      · refine ⟨?pls0, ?pls1, ?pls2, ?pls3, ?pls4, ?pls5, ?pls6, ?pls7, ?pls8, ?pls9, ?pls10, ?pls11, ?pls12, ?pls13, ?pls14, ?pls15, ?pls16, ?pls17, ?pls18, trivial⟩
        case pls0 =>
          refine @stepPh_quiet _ _ _ _ _ _ _ _ _ _ _ _ (by decide) (by decide) ?_
          intro v W hB hd; simp only [Region.wanted, ↓reduceIte]; (try simp [deps, waitsOn, Region.binds, knowing, isV, ownsV, anyV] at hd); simp only [putAll, List.take_succ_cons, List.take_zero, List.drop_succ_cons, List.drop_zero, Act.put, List.setIfInBounds_toArray, List.set_cons_zero, List.set_cons_succ, Nat.zero_add, Nat.reduceAdd]; obtain ⟨b0, b1, b2, b3, b4⟩ := hB.cells; go_simp; exact ⟨Stay.refl _, rfl⟩
        case pls1 =>
          refine @stepPh_quiet _ _ _ _ _ _ _ _ _ _ _ _ (by decide) (by decide) ?_
          intro v W hB hd; simp only [Region.wanted, ↓reduceIte]; (try simp [deps, waitsOn, Region.binds, knowing, isV, ownsV, anyV] at hd); simp only [putAll, List.take_succ_cons, List.take_zero, List.drop_succ_cons, List.drop_zero, Act.put, List.setIfInBounds_toArray, List.set_cons_zero, List.set_cons_succ, Nat.zero_add, Nat.reduceAdd]; obtain ⟨b0, b1, b2, b3, b4⟩ := hB.cells; go_simp; exact ⟨Stay.refl _, rfl⟩
        case pls2 =>
          refine @stepPh_quiet _ _ _ _ _ _ _ _ _ _ _ _ (by decide) (by decide) ?_
          intro v W hB hd; simp only [Region.wanted, ↓reduceIte]; (try simp [deps, waitsOn, Region.binds, knowing, isV, ownsV, anyV] at hd); simp only [putAll, List.take_succ_cons, List.take_zero, List.drop_succ_cons, List.drop_zero, Act.put, List.setIfInBounds_toArray, List.set_cons_zero, List.set_cons_succ, Nat.zero_add, Nat.reduceAdd]
          have hw := Hw.out
          go_simp
          exact ⟨Stay.refl _, rfl⟩
        case pls3 =>
          refine @stepPh_quiet _ _ _ _ _ _ _ _ _ _ _ _ (by decide) (by decide) ?_
          intro v W hB hd; simp only [Region.wanted, ↓reduceIte]; (try simp [deps, waitsOn, Region.binds, knowing, isV, ownsV, anyV] at hd); simp only [putAll, List.take_succ_cons, List.take_zero, List.drop_succ_cons, List.drop_zero, Act.put, List.setIfInBounds_toArray, List.set_cons_zero, List.set_cons_succ, Nat.zero_add, Nat.reduceAdd]; obtain ⟨b0, b1, b2, b3, b4⟩ := hB.cells; go_simp; exact ⟨Stay.refl _, rfl⟩
        case pls4 =>
          refine @stepPh_quiet _ _ _ _ _ _ _ _ _ _ _ _ (by decide) (by decide) ?_
          intro v W hB hd; simp only [Region.wanted, ↓reduceIte]; (try simp [deps, waitsOn, Region.binds, knowing, isV, ownsV, anyV] at hd); simp only [putAll, List.take_succ_cons, List.take_zero, List.drop_succ_cons, List.drop_zero, Act.put, List.setIfInBounds_toArray, List.set_cons_zero, List.set_cons_succ, Nat.zero_add, Nat.reduceAdd]; obtain ⟨b0, b1, b2, b3, b4⟩ := hB.cells; go_simp; exact ⟨Stay.refl _, rfl⟩
        case pls5 =>
          refine @stepPh_quiet _ _ _ _ _ _ _ _ _ _ _ _ (by decide) (by decide) ?_
          intro v W hB hd; simp only [Region.wanted, ↓reduceIte]; (try simp [deps, waitsOn, Region.binds, knowing, isV, ownsV, anyV] at hd); simp only [putAll, List.take_succ_cons, List.take_zero, List.drop_succ_cons, List.drop_zero, Act.put, List.setIfInBounds_toArray, List.set_cons_zero, List.set_cons_succ, Nat.zero_add, Nat.reduceAdd]; obtain ⟨b0, b1, b2, b3, b4⟩ := hB.cells; go_simp; exact ⟨Stay.refl _, rfl⟩
        case pls6 =>
          refine @stepPh_quiet _ _ _ _ _ _ _ _ _ _ _ _ (by decide) (by decide) ?_
          intro v W hB hd; simp only [Region.wanted, ↓reduceIte]; (try simp [deps, waitsOn, Region.binds, knowing, isV, ownsV, anyV] at hd); simp only [putAll, List.take_succ_cons, List.take_zero, List.drop_succ_cons, List.drop_zero, Act.put, List.setIfInBounds_toArray, List.set_cons_zero, List.set_cons_succ, Nat.zero_add, Nat.reduceAdd]; obtain ⟨b0, b1, b2, b3, b4⟩ := hB.cells; go_simp; exact ⟨Stay.refl _, rfl⟩
        case pls7 =>
          refine @stepPh_quiet _ _ _ _ _ _ _ _ _ _ _ _ (by decide) (by decide) ?_
          intro v W hB hd; simp only [Region.wanted, ↓reduceIte]; (try simp [deps, waitsOn, Region.binds, knowing, isV, ownsV, anyV] at hd); simp only [putAll, List.take_succ_cons, List.take_zero, List.drop_succ_cons, List.drop_zero, Act.put, List.setIfInBounds_toArray, List.set_cons_zero, List.set_cons_succ, Nat.zero_add, Nat.reduceAdd]; obtain ⟨b0, b1, b2, b3, b4⟩ := hB.cells; go_simp; exact ⟨Stay.refl _, rfl⟩
        case pls8 =>
          refine @stepPh_fst _ _ _ _ _ _ _ _ _ _ _ ?_
          intro v W hB hd; refine ⟨rfl, ?_⟩; (try simp [deps, waitsOn, Region.binds, knowing, isV, ownsV, anyV] at hd); simp only [putAll, List.take_succ_cons, List.take_zero, List.drop_succ_cons, List.drop_zero, Act.put, List.setIfInBounds_toArray, List.set_cons_zero, List.set_cons_succ, Nat.zero_add, Nat.reduceAdd]
          obtain ⟨hB, hT⟩ := hB
          have hst := step_at (p := (j : Int) + 1) (vr := 1) hT.St hB.at_.ev Hse.out (by omega) hpf.out
          unfold recVal at hst
          go_simp
          refine hst.mono ?_
          clear hst
          rintro x w' ⟨rfl, hS, hK⟩
          rw [HD2.out] at hS
          rw [Hz.out]
          go_simp
          exact ⟨⟨hB.kept hK hT.St.sIn hT.St.mIn, hT.stepS hS hK⟩, rfl⟩
        case pls9 =>
          refine @stepPh_quiet _ _ _ _ _ _ _ _ _ _ _ _ (by decide) (by decide) ?_
          intro v W hB hd; simp only [Region.wanted, ↓reduceIte]; (try simp [deps, waitsOn, Region.binds, knowing, isV, ownsV, anyV] at hd); simp only [putAll, List.take_succ_cons, List.take_zero, List.drop_succ_cons, List.drop_zero, Act.put, List.setIfInBounds_toArray, List.set_cons_zero, List.set_cons_succ, Nat.zero_add, Nat.reduceAdd]; obtain ⟨b0, b1, b2, b3, b4⟩ := hB.cells; go_simp; exact ⟨Stay.refl _, rfl⟩
        case pls10 =>
          refine @stepPh_quiet _ _ _ _ _ _ _ _ _ _ _ _ (by decide) (by decide) ?_
          intro v W hB hd; simp only [Region.wanted, ↓reduceIte]; (try simp [deps, waitsOn, Region.binds, knowing, isV, ownsV, anyV] at hd); simp only [putAll, List.take_succ_cons, List.take_zero, List.drop_succ_cons, List.drop_zero, Act.put, List.setIfInBounds_toArray, List.set_cons_zero, List.set_cons_succ, Nat.zero_add, Nat.reduceAdd]; obtain ⟨b0, b1, b2, b3, b4⟩ := hB.cells; go_simp; exact ⟨Stay.refl _, rfl⟩
        case pls11 =>
          refine @stepPh_quiet _ _ _ _ _ _ _ _ _ _ _ _ (by decide) (by decide) ?_
          intro v W hB hd; simp only [Region.wanted, ↓reduceIte]; (try simp [deps, waitsOn, Region.binds, knowing, isV, ownsV, anyV] at hd); simp only [putAll, List.take_succ_cons, List.take_zero, List.drop_succ_cons, List.drop_zero, Act.put, List.setIfInBounds_toArray, List.set_cons_zero, List.set_cons_succ, Nat.zero_add, Nat.reduceAdd]
          have hw := Hw.out
          go_simp
          exact ⟨Stay.refl _, rfl⟩
        case pls12 =>
          refine @stepPh_quiet _ _ _ _ _ _ _ _ _ _ _ _ (by decide) (by decide) ?_
          intro v W hB hd; simp only [Region.wanted, ↓reduceIte]; (try simp [deps, waitsOn, Region.binds, knowing, isV, ownsV, anyV] at hd); simp only [putAll, List.take_succ_cons, List.take_zero, List.drop_succ_cons, List.drop_zero, Act.put, List.setIfInBounds_toArray, List.set_cons_zero, List.set_cons_succ, Nat.zero_add, Nat.reduceAdd]; obtain ⟨b0, b1, b2, b3, b4⟩ := hB.cells; go_simp; exact ⟨Stay.refl _, rfl⟩
        case pls13 =>
          refine @stepPh_quiet _ _ _ _ _ _ _ _ _ _ _ _ (by decide) (by decide) ?_
          intro v W hB hd; simp only [Region.wanted, ↓reduceIte]; (try simp [deps, waitsOn, Region.binds, knowing, isV, ownsV, anyV] at hd); simp only [putAll, List.take_succ_cons, List.take_zero, List.drop_succ_cons, List.drop_zero, Act.put, List.setIfInBounds_toArray, List.set_cons_zero, List.set_cons_succ, Nat.zero_add, Nat.reduceAdd]; obtain ⟨b0, b1, b2, b3, b4⟩ := hB.cells; go_simp; exact ⟨Stay.refl _, rfl⟩
        case pls14 =>
          refine @stepPh_quiet _ _ _ _ _ _ _ _ _ _ _ _ (by decide) (by decide) ?_
          intro v W hB hd; simp only [Region.wanted, ↓reduceIte]; (try simp [deps, waitsOn, Region.binds, knowing, isV, ownsV, anyV] at hd); simp only [putAll, List.take_succ_cons, List.take_zero, List.drop_succ_cons, List.drop_zero, Act.put, List.setIfInBounds_toArray, List.set_cons_zero, List.set_cons_succ, Nat.zero_add, Nat.reduceAdd]; obtain ⟨b0, b1, b2, b3, b4⟩ := hB.cells; go_simp; exact ⟨Stay.refl _, rfl⟩
        case pls15 =>
          refine @stepPh_quiet _ _ _ _ _ _ _ _ _ _ _ _ (by decide) (by decide) ?_
          intro v W hB hd; simp only [Region.wanted, ↓reduceIte]; (try simp [deps, waitsOn, Region.binds, knowing, isV, ownsV, anyV] at hd); simp only [putAll, List.take_succ_cons, List.take_zero, List.drop_succ_cons, List.drop_zero, Act.put, List.setIfInBounds_toArray, List.set_cons_zero, List.set_cons_succ, Nat.zero_add, Nat.reduceAdd]; obtain ⟨b0, b1, b2, b3, b4⟩ := hB.cells; go_simp; exact ⟨Stay.refl _, rfl⟩
        case pls16 =>
          refine @stepPh_quiet _ _ _ _ _ _ _ _ _ _ _ _ (by decide) (by decide) ?_
          intro v W hB hd; simp only [Region.wanted, ↓reduceIte]; (try simp [deps, waitsOn, Region.binds, knowing, isV, ownsV, anyV] at hd); simp only [putAll, List.take_succ_cons, List.take_zero, List.drop_succ_cons, List.drop_zero, Act.put, List.setIfInBounds_toArray, List.set_cons_zero, List.set_cons_succ, Nat.zero_add, Nat.reduceAdd]; obtain ⟨b0, b1, b2, b3, b4⟩ := hB.cells; go_simp; exact ⟨Stay.refl _, rfl⟩
        case pls17 =>
          refine @stepPh_snd _ _ _ _ _ _ _ _ _ _ _ (by decide) ?_
          intro v W hB hd; refine ⟨rfl, ?_⟩; (try simp [deps, waitsOn, Region.binds, knowing, isV, ownsV, anyV] at hd); simp only [putAll, List.take_succ_cons, List.take_zero, List.drop_succ_cons, List.drop_zero, Act.put, List.setIfInBounds_toArray, List.set_cons_zero, List.set_cons_succ, Nat.zero_add, Nat.reduceAdd]
          obtain ⟨hB, hT⟩ := hB
          have hst := refStep_at (p := (j : Int) + 1) (vr := 1) hT.Rf hB.at_.ev Hse.out (by omega) hpf.out Hpj.out.ok Hmk.out (fun k hk => (hT.lo k hk).2)
          unfold recVal at hst
          go_simp
          refine hst.mono ?_
          clear hst
          rintro x w' ⟨rfl, hR, hK⟩
          rw [HD2.out] at hR
          rw [Hz.out]
          go_simp
          exact ⟨⟨hB.kept hK hT.Rf.yIn hT.Rf.yIn, hT.stepR hR hK⟩, rfl⟩
        case pls18 =>
          refine @stepPh_quiet _ _ _ _ _ _ _ _ _ _ _ _ (by decide) (by decide) ?_
          intro v W hB hd; simp only [Region.wanted, ↓reduceIte]; (try simp [deps, waitsOn, Region.binds, knowing, isV, ownsV, anyV] at hd); simp only [putAll, List.take_succ_cons, List.take_zero, List.drop_succ_cons, List.drop_zero, Act.put, List.setIfInBounds_toArray, List.set_cons_zero, List.set_cons_succ, Nat.zero_add, Nat.reduceAdd]
          go_simp
          exact ⟨Stay.refl _, by first | rfl | simp⟩
      · intro i w1 w2 w3 h
        match i, h with
        | 0, h => exact h
        | 1, h => exact h
        | 2, h => exact h
        | 3, h => exact h
        | 4, h => exact h
        | 5, h => exact h
        | 6, h => exact h
        | 7, h => exact h
        | 8, h => exact h
        | 9, h => exact h
        | 10, h => exact h
        | 11, h => exact h
        | 12, h => exact h
        | 13, h => exact h
        | 14, h => exact h
        | 15, h => exact h
        | 16, h => exact h
        | 17, h => exact h
        | 18, h => exact h
        | _ + 19, h => exact h
      · rintro v W12 hB hI ⟨-, -, -, -, -, -, -, -, -, -, -, -, -, -, -, -, -, -, e18, -⟩
        have e18 := (show v 18 = _ from e18)
        simp only [putAll, List.take_succ_cons, List.take_zero, List.drop_succ_cons, List.drop_zero, Act.put, List.setIfInBounds_toArray, List.set_cons_zero, List.set_cons_succ, Nat.zero_add, Nat.reduceAdd]
        rw [e18]
        have HI2 := hid (show CutIs w.heap.size y d8 w (some ⟨b0, o0, none⟩) nF cF fl (foldE d8 D0 (fl.take (j + 1))) (.pointer (some ⟨s1, 0, none⟩)) W12 from ⟨S1, s1, m1, rfl, by rw [Hda.out]; exact hI, hB.row⟩)
        clear e18 hI hB
        go_wp2_with fail
        go_roundw
        case rel => exact ⟨j + 1, by omega, by go_num, HI2⟩
        case measure => simp [intOf]; omega
    · obtain rfl : j = nF := by omega
      have hlt' : ¬ ((j : Int) < (j : Int)) := by omega
      have hall : fl.take j = fl := List.take_of_length_le (by have := HnF.out; omega)
      have hpl := (Hpo.out j (Nat.le_refl _)).len
      have Hf := hid (Hpo.out j (Nat.le_refl _))
      clear HI
      generalize foldE d8 D0 (fl.take j) = D1 at *
      obtain ⟨_, _, B', b', -, -, -, y3, -, hL, -⟩ := HP.out.Rf.cells
      have Y3 := hid y3; have HL := hid hL
      have hdl : D1.length < 1000000 := by omega
      have hbl := hL.2.1
      have hbm := hL.2.2.1
      clear y3 hL hall hpl Hf
      generalize hln : D1.length = dl at *
      have Hln := hid hln
      clear hln
      go_wp2_with fail
      apply wp_drawn [isV _, isV _, isV _, entsV D1, isV _, isV _, isV _, isV (.slice B' dl b'), isV (.bool true), isV (.bool true), isV (.bool true)] (by kernel_rfl)
      · kernel_rfl
      · refine ⟨?pes0, ?pes1, ?pes2, ?pes3, ?pes4, ?pes5, ?pes6, ?pes7, ?pes8, ?pes9, ?pes10, trivial⟩
        case pes0 =>
          intro v W hE hd; simp only [Region.wanted, ↓reduceIte]; (try simp [deps, waitsOn, Region.binds, knowing, isV, ownsV, anyV] at hd); simp only [putAll, List.take_succ_cons, List.take_zero, List.drop_succ_cons, List.drop_zero, Act.put, List.setIfInBounds_toArray, List.set_cons_zero, List.set_cons_succ, Nat.zero_add, Nat.reduceAdd]; go_simp; exact ⟨Below.refl _ _, rfl⟩
        case pes1 =>
          intro v W hE hd; simp only [Region.wanted, ↓reduceIte]; (try simp [deps, waitsOn, Region.binds, knowing, isV, ownsV, anyV] at hd); simp only [putAll, List.take_succ_cons, List.take_zero, List.drop_succ_cons, List.drop_zero, Act.put, List.setIfInBounds_toArray, List.set_cons_zero, List.set_cons_succ, Nat.zero_add, Nat.reduceAdd]; go_simp; exact ⟨Below.refl _ _, rfl⟩
        case pes2 =>
          intro v W hE hd; (try simp [deps, waitsOn, Region.binds, knowing, isV, ownsV, anyV] at hd); simp only [putAll, List.take_succ_cons, List.take_zero, List.drop_succ_cons, List.drop_zero, Act.put, List.setIfInBounds_toArray, List.set_cons_zero, List.set_cons_succ, Nat.zero_add, Nat.reduceAdd]; rw [if_pos (by simp [Region.wanted, yielded, hd])]; go_simp; exact ⟨Below.refl _ _, rfl⟩
        case pes3 =>
          intro v W hE hd; (try simp [deps, waitsOn, Region.binds, knowing, isV, ownsV, anyV] at hd); simp only [putAll, List.take_succ_cons, List.take_zero, List.drop_succ_cons, List.drop_zero, Act.put, List.setIfInBounds_toArray, List.set_cons_zero, List.set_cons_succ, Nat.zero_add, Nat.reduceAdd]; rw [if_pos (by simp [Region.wanted, yielded, hd])]
          go_simp
          refine (entries_at (HP.out.St.ext hE) (by have := Hln.out; omega)).mono ?_
          rintro x w' ⟨v', rfl, hO, hE2⟩
          obtain ⟨Aa, ca, rfl, hRa⟩ := ownK_out (S := fun _ => False) hO (fun k hk => hk.elim) (fun k hk => hk.elim)
          have HE2 := hid hE2; have HRa := hid hRa
          clear hE2 hRa hO
          go_simp
          exact ⟨HE2.out, _, _, rfl, HRa.out.mono fun k hk => hk.1⟩
        case pes4 =>
          intro v W hE hd; (try simp [deps, waitsOn, Region.binds, knowing, isV, ownsV, anyV] at hd); simp only [putAll, List.take_succ_cons, List.take_zero, List.drop_succ_cons, List.drop_zero, Act.put, List.setIfInBounds_toArray, List.set_cons_zero, List.set_cons_succ, Nat.zero_add, Nat.reduceAdd]; rw [if_pos (by simp [Region.wanted, yielded, hd])]; go_simp; exact ⟨Below.refl _ _, rfl⟩
        case pes5 =>
          intro v W hE hd; (try simp [deps, waitsOn, Region.binds, knowing, isV, ownsV, anyV] at hd); simp only [putAll, List.take_succ_cons, List.take_zero, List.drop_succ_cons, List.drop_zero, Act.put, List.setIfInBounds_toArray, List.set_cons_zero, List.set_cons_succ, Nat.zero_add, Nat.reduceAdd]; rw [if_pos (by simp [Region.wanted, yielded, hd])]; go_simp; exact ⟨Below.refl _ _, rfl⟩
        case pes6 =>
          intro v W hE hd; (try simp [deps, waitsOn, Region.binds, knowing, isV, ownsV, anyV] at hd); simp only [putAll, List.take_succ_cons, List.take_zero, List.drop_succ_cons, List.drop_zero, Act.put, List.setIfInBounds_toArray, List.set_cons_zero, List.set_cons_succ, Nat.zero_add, Nat.reduceAdd]; rw [if_pos (by simp [Region.wanted, yielded, hd])]; go_simp; exact ⟨Below.refl _ _, rfl⟩
        case pes7 =>
          intro v W hE hd; (try simp [deps, waitsOn, Region.binds, knowing, isV, ownsV, anyV] at hd); simp only [putAll, List.take_succ_cons, List.take_zero, List.drop_succ_cons, List.drop_zero, Act.put, List.setIfInBounds_toArray, List.set_cons_zero, List.set_cons_succ, Nat.zero_add, Nat.reduceAdd]; rw [if_pos (by simp [Region.wanted, yielded, hd])]
          have e1 := cell_below hE Y3.out
          go_simp
          exact ⟨Below.refl _ _, rfl⟩
        case pes8 =>
          intro v W hE hd; (try simp [deps, waitsOn, Region.binds, knowing, isV, ownsV, anyV] at hd); simp only [putAll, List.take_succ_cons, List.take_zero, List.drop_succ_cons, List.drop_zero, Act.put, List.setIfInBounds_toArray, List.set_cons_zero, List.set_cons_succ, Nat.zero_add, Nat.reduceAdd]; rw [if_pos (by simp [Region.wanted, yielded, hd])]
          obtain ⟨⟨Aa, ca, h3, hRa⟩, h7, -, -⟩ := hd
          rw [Hln.out] at h3 hRa
          have HRa := hid hRa
          clear hRa
          rw [h3, h7]
          have hsm := same_at HRa.out (slR_more HL.out hE (S' := S) (fun _ hk => .inl hk))
          rw [decide_eq_true (show D1 = D1 from rfl)] at hsm
          go_simp
          refine hsm.mono ?_
          clear hsm
          rintro x w' ⟨rfl, hE2⟩
          have HE2 := hid hE2
          clear hE2
          go_simp
          exact ⟨HE2.out, rfl⟩
        case pes9 =>
          intro v W hE hd; simp only [Region.wanted, ↓reduceIte]; (try simp [deps, waitsOn, Region.binds, knowing, isV, ownsV, anyV] at hd); simp only [putAll, List.take_succ_cons, List.take_zero, List.drop_succ_cons, List.drop_zero, Act.put, List.setIfInBounds_toArray, List.set_cons_zero, List.set_cons_succ, Nat.zero_add, Nat.reduceAdd]
          go_simp
          exact ⟨Below.refl _ _, rfl⟩
        case pes10 =>
          intro v W hE hd; simp only [Region.wanted, ↓reduceIte]; (try simp [deps, waitsOn, Region.binds, knowing, isV, ownsV, anyV] at hd); simp only [putAll, List.take_succ_cons, List.take_zero, List.drop_succ_cons, List.drop_zero, Act.put, List.setIfInBounds_toArray, List.set_cons_zero, List.set_cons_succ, Nat.zero_add, Nat.reduceAdd]
          go_simp
          exact ⟨Below.refl _ _, rfl⟩
      · rintro v W13 hE ⟨-, -, -, -, -, -, -, -, -, -, e10, -⟩
        have e10 := (show v 10 = _ from e10)
        simp only [putAll, List.take_succ_cons, List.take_zero, List.drop_succ_cons, List.drop_zero, Act.put, List.setIfInBounds_toArray, List.set_cons_zero, List.set_cons_succ, Nat.zero_add, Nat.reduceAdd]
        rw [e10]
        have HEf := hid (HP.out.ext hE).B
        clear e10 hE
        go_wp2
        go_ret
        exact ⟨rfl, HEf.out⟩
end Go.Proofs.YtpmmapcjohmniaaGreat
