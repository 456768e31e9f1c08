/- The law FoldOrder. -/
import Derived.Test.YtpmmapcjohmniaaThree
import Derived.Test.YtpmmapcjohmniaaFoOrd
import Derived.Test.YtpmmapcjohmniaaQu4
namespace Go.Proofs.Ytpmmapcjohmniaa
open Go Go.RowKit
set_option linter.unusedSimpArgs false
set_option linter.unusedVariables false

set_option maxRecDepth 100000 in
set_option maxHeartbeats 4000000 in
theorem foldOrder_in (kd : Int) (fd : Str) (A : Option Addr) (n c : Nat) (q : List ClV) (A1 : Option Addr) (n1 c1 : Nat) (l : List EvV) (w : World) (hkd : I64 kd) (hfd : Short fd) (hq : SlR RCl w (· < w.heap.size) A n c q) (hl : SlR REv w (· < w.heap.size) A1 n1 c1 l) :
    Calls Try.prog 4 #[.agg #[.int .i64 kd, .string (str fd), .slice A n c], .slice A1 n1 c1] w fun e w' => e = .returned (.bool true) ∧ Below w.heap.size w w' := by
  obtain ⟨d, rfl, rfl, rfl⟩ : ∃ d : DefV, kd = d.kind ∧ fd = d.field ∧ q = d.q := ⟨⟨kd, fd, q⟩, rfl, rfl, rfl⟩
  have hn := hid hq.1
  have hnc := hq.2.1
  have hcm := hq.2.2.1
  have Hq := hid (show SlR RCl w (· < w.heap.size) A d.q.length c d.q by have := hq; rw [hq.1] at this; exact this)
  have Hl := hid hl
  clear hq hl hkd hfd
  go_enter Try.func4, Try.ntmps4
  have HE0 := hid (ext_alloc w (.cells #[.int .i64 d.kind, .string (str d.field), .slice A n c] 33))
  have Hbx := hid (show DefBox w.heap.size d A n c (w.alloc (.cells #[.int .i64 d.kind, .string (str d.field), .slice A n c] 33)) from heap_alloc_last _ _)
  go_wp2_with fail
  refine (shown_at _).mono ?_
  rintro e w0 ⟨rfl, hE0⟩
  have HE1 := hid (HE0.out.trans' hE0)
  have Hb1 := hid (Hbx.out.ext hE0)
  clear hE0
  obtain ⟨b0, b1, b2⟩ := Hb1.out.cells
  have fz := Hb1.out.free 2
  go_upto_if 21 with (fail)
  go_cut [5] (fun h wx => h = .bool true ∧ Hid (DefAt w (cut8 d) A c wx))
  case first =>
    by_cases h8 : 8 < n
    · have h8' : (8 : Int) < (n : Int) := by omega
      have HD := hid (DefAt.long (by rw [← hn.out]; exact Hb1.out) Hq.out HE1.out (by have := hn.out; omega))
      have g8 : (8 : Int) ≤ (c : Int) := by omega
      go_wp2_with fail
      go_meet
      case rel => exact ⟨rfl, HD⟩
    · have h8' : ¬ ((8 : Int) < (n : Int)) := by omega
      have HD := hid (DefAt.short (by rw [← hn.out]; exact Hb1.out) Hq.out HE1.out (by have := hn.out; omega))
      go_wp2_with fail
      go_meet
      case rel => exact ⟨rfl, HD⟩
  case rest =>
  obtain ⟨rfl, HD⟩ := hcut
  clear HE0 Hbx HE1 Hb1 b0 b1 b2 fz
  obtain ⟨d0, d1, d2⟩ := HD.out.box.cells
  have Hq8 := hid (HD.out.q.grow' HD.out.ext.size)
  generalize hd8 : cut8 d = d8 at *
  clear hd8
  generalize hn8 : d8.q.length = n8 at d2 Hq8
  have Hn8 := hid hn8; clear hn8
  have HDb := hid (show DefBox w.heap.size d8 A n8 c wc from by have := HD.out.box; rwa [Hn8.out] at this)
  go_wp2_with fail
  have hnew := foldNew_at (d := d8) Hq8.out
  unfold defVal at hnew
  refine hnew.mono ?_
  clear hnew d0 d1 d2
  rintro e w1 ⟨hEb, hres⟩
  have HEold := hid hEb
  clear hEb
  rcases hres with ⟨hne, rfl⟩ | ⟨Hok, a, ma, rfl, hsa, hma, hN⟩
  · obtain ⟨me, hme⟩ : ∃ me, mayDef d8 = me := ⟨_, rfl⟩
    have Hne := hid hne
    rw [hme] at hne ⊢
    have Hme := hid hme
    clear hme
    obtain ⟨d0, d1, d2⟩ := (HDb.out.ext HEold.out).cells
    go_wp2_with fail
    have hnew := foldNew_at (d := d8) (Hq8.out.grow HEold.out)
    unfold defVal at hnew
    refine hnew.mono ?_
    clear hnew d0 d1 d2
    rintro e w2 ⟨hEb, hres⟩
    rcases hres with ⟨hne2, rfl⟩ | ⟨h0, -⟩
    rotate_left
    · exact absurd h0 Hne.out
    rw [Hme.out]
    have HE0 := hid (HEold.out.trans' hEb)
    clear hEb HEold hne2
    have HEold := HE0
    obtain ⟨d0, d1, d2⟩ := (HDb.out.ext HEold.out).cells
    go_wp2_with fail
    have hnew := foldNew_at (d := d8) (Hq8.out.grow HEold.out)
    unfold defVal at hnew
    refine hnew.mono ?_
    clear hnew d0 d1 d2
    rintro e w3 ⟨hEb, hres⟩
    rcases hres with ⟨hne2, rfl⟩ | ⟨h0, -⟩
    rotate_left
    · exact absurd h0 Hne.out
    rw [Hme.out]
    have HE0 := hid (HEold.out.trans' hEb)
    clear hEb HEold hne2
    have HEold := HE0
    have hneb : (me != 0) = true := by simpa using hne
    have hneb2 : (me == 0) = false := by simpa using hne
    go_wp2
    go_ret
    exact ⟨rfl, HD.out.ext.trans' HEold.out⟩
  have HOK := hid Hok
  have HNa := hid hN
  clear hN Hok
  have HEa := HEold
  obtain ⟨d0, d1, d2⟩ := (HDb.out.ext HEold.out).cells
  go_wp2_with fail
  have hnew := foldNew_at (d := d8) (Hq8.out.grow HEold.out)
  unfold defVal at hnew
  refine hnew.mono ?_
  clear hnew d0 d1 d2
  rintro e w2 ⟨hEb, hres⟩
  rcases hres with ⟨hne, rfl⟩ | ⟨-, b, mb, rfl, hsb, hmb, hN⟩
  · exact absurd HOK.out hne
  have HEb := hid hEb
  have HNb := hid hN
  have HE0b := hid (HEold.out.trans' hEb)
  clear hEb hN HEold
  have HEold := HE0b
  obtain ⟨d0, d1, d2⟩ := (HDb.out.ext HEold.out).cells
  go_wp2_with fail
  have hnew := foldNew_at (d := d8) (Hq8.out.grow HEold.out)
  unfold defVal at hnew
  refine hnew.mono ?_
  clear hnew d0 d1 d2
  rintro e w3 ⟨hEb, hres⟩
  rcases hres with ⟨hne, rfl⟩ | ⟨-, cc, mc, rfl, hscc, hmcc, hN⟩
  · exact absurd HOK.out hne
  have HEcc := hid hEb
  have HNcc := hid hN
  have HE0cc := hid (HEold.out.trans' hEb)
  clear hEb hN HEold
  have HEold := HE0cc
  obtain ⟨d0, d1, d2⟩ := (HDb.out.ext HEold.out).cells
  have hbx : w.heap.size + 1 ≤ wc.heap.size := (Array.getElem?_eq_some_iff.1 HDb.out).1
  have HT := hid (three_new (n0 := w.heap.size + 1) hbx HNa.out HNb.out HNcc.out HEa.out (Below.refl _ _) HEb.out (Below.refl _ _) HEcc.out hsa hma hsb hmb hscc hmcc)
  have HEc := hid (show Below (w.heap.size + 1) wc w3 from HEold.out.mono hbx)
  have HQ := hid (show SlR RCl wc (· < w.heap.size) A n8 c d8.q from by have := HD.out.q; rwa [Hn8.out] at this)
  have HEw := hid HD.out.ext
  have Hbx := hid hbx
  clear HNa HNb HNcc HEa HEb HEcc HE0b HE0cc HEold hsa hma hsb hmb hscc hmcc HD Hq8 HOK hbx
  by_cases hk3 : d8.kind = 3
  · rw [hk3] at d0
    go_wp2
    go_ret
    exact ⟨rfl, HEw.out.trans (HEc.out.mono (Nat.le_succ _))⟩
  have hk3b : (d8.kind == 3) = false := beq_eq_false_iff_ne.2 hk3
  have Hk3 := hid hk3
  clear hk3
  go_wp2_with fail
  clear d0 d1 d2 hk3b
  have HE3 := hid (HEw.out.trans (HEc.out.mono (Nat.le_succ _)))
  refine (few_at (Hl.out.ext fun k hk => HE3.out.block k hk) (fun k hk => Nat.lt_of_lt_of_le hk HE3.out.size)).mono ?_
  rintro e wF ⟨v, rfl, hO, hE⟩
  obtain ⟨AF, cF, rfl, hR⟩ := ownK_out (S := S6 a ma b mb cc mc) hO (fun k hk => ⟨Nat.lt_of_lt_of_le hk (Nat.le_trans HE3.out.size hE.size), fun h => by have := HT.out.lo k h; omega⟩) (fun k hk => by
    have h1 := HT.out.A.lt; have h2 := HT.out.B.lt; have h3 := HT.out.C.lt
    rcases hk with h | h | h | h | h | h <;> omega)
  have HTF := hid (HT.out.ext hE)
  have HEF := hid (HEc.out.trans (hE.mono (Nat.le_trans Hbx.out HEc.out.size)))
  have Hsm := hid (show ∀ e ∈ fewF l, SmallE e from fun e he => small_may (few_may he))
  have Hnm := hid (show ∀ e ∈ fewF l, NumE e from fun e he => num_may (few_may he))
  have hfl := few_len l
  have hnF := hR.1
  have hncF := hR.2.1
  have hcmF := hR.2.2.1
  have HRF := hid hR
  clear hO hE hR HT HE3 HEc
  generalize fewF l = fl at *
  generalize hnn : fl.length = nF at *
  have HnF := hid hnn
  clear hnn hnF
  have hob := fun i => okD_fold (d := d8) (fl.take i) (fun e he => Hsm.out e (List.mem_of_mem_take he)) (by rw [List.length_take]; have := HnF.out; omega)
  have Hlen := hid (show ∀ i, (foldE d8 [] (fl.take i)).length + 1000 < 1000000 from fun i => by have := (hob i).2; rw [List.length_take] at this; have := HnF.out; omega)
  have Hfit := hid (show ∀ i, FitB 2305843009213693952 (foldE d8 [] (fl.take i)) from fun i => (hob i).1.fit.le (by decide))
  have hobr := fun i => okD_fold (d := d8) (fl.reverse.take i) (fun e he => Hsm.out e (List.mem_reverse.1 (List.mem_of_mem_take he))) (by rw [List.length_take, List.length_reverse]; have := HnF.out; omega)
  have Hlenr := hid (show ∀ i, (foldE d8 [] (fl.reverse.take i)).length + 1000 < 1000000 from fun i => by have := (hobr i).2; rw [List.length_take, List.length_reverse] at this; have := HnF.out; omega)
  have Hfitr := hid (show ∀ i, FitB 2305843009213693952 (foldE d8 [] (fl.reverse.take i)) from fun i => (hobr i).1.fit.le (by decide))
  clear hob hobr
  go_wp2_with fail
  clear Hq Hl hn hnc hcm Hn8
  go_loopw [12] (fun i wr => ∃ j : Nat, j ≤ nF ∧ i = .int .i64 (j : Int) ∧ Hid (Three (w.heap.size + 1) (S6 a ma b mb cc mc) a ma b mb cc mc d8 d8 d8 wr (foldE d8 [] (fl.take j)) (foldE d8 [] (fl.reverse.take j)) (foldE d8 [] (fl.take j))) ∧ Hid (SlR REv wr (Out (S6 a ma b mb cc mc) wr) AF nF cF fl) ∧ Hid (Below (w.heap.size + 1) wc wr)) (fun i _ => nF - (intOf i).toNat)
  case atStart => exact ⟨0, by omega, rfl, HTF, HRF, HEF⟩
  case round =>
    obtain ⟨j, hj, rfl, HT, HR, HE⟩ := hrel
    clear HTF HRF HEF
    by_cases hlt : j < nF
    · have hjx : j < fl.length := by have := HnF.out; omega
      have hjr : nF - 1 - j < fl.length := by have := HnF.out; omega
      have hlt' : (j : Int) < (nF : Int) := by omega
      have hk00 : ¬ ((j : Int) < 0) := by omega
      have hk0 : (0 : Int) ≤ (j : Int) := by omega
      have Hse := hid (Hsm.out _ (List.getElem_mem hjx))
      have Hser := hid (Hsm.out _ (List.getElem_mem hjr))
      have Hda := hid (foldE_take d8 [] hjx)
      have Hdr := hid (show foldE d8 [] (fl.reverse.take (j + 1)) = (StepF d8 fl[nF - 1 - j] (foldE d8 [] (fl.reverse.take j))).2 by
        rw [foldE_take d8 [] (by rw [List.length_reverse]; exact hjx), List.getElem_reverse]
        congr 2
        simp only [HnF.out])
      obtain ⟨b0, o0, T, t1, t2, U, u1, u2, hA0, f0, f1, f2, f3, hev⟩ := evS_at (HR).out j hjx
      cases hA0
      have Hev := hid hev
      clear hev
      generalize hge : fl[j] = e at *
      have Hge := hid hge
      clear hge
      go_wp2_with fail
      have hst := step_at (p := 0) (vr := 0) HT.out.A Hev.out Hse.out (Hlen.out j) (Hfit.out j)
      unfold recVal at hst
      refine hst.mono ?_
      clear hst f0 f1 f2 f3
      rintro x w5 ⟨rfl, hS, hK⟩
      rw [← Hda.out] at hS
      have HT5 := hid (HT.out.stepA hS hK)
      have HR5 := hid (slR_kept HR.out hK HT.out.A.sIn HT.out.A.mIn)
      have HE5 := hid (HE.out.trans (HT.out.belowA hK (Nat.le_trans Hbx.out HE.out.size)))
      clear hS hK HT HR HE Hev
      generalize (StepF d8 e (foldE d8 [] (fl.take j))).1 = z1
      obtain ⟨b0, o0, T, t1, t2, U, u1, u2, hA0, f0, f1, f2, f3, hev⟩ := evS_at (HR5).out (nF - 1 - j) hjr
      cases hA0
      have Hev := hid hev
      clear hev
      generalize fl[nF - 1 - j] = er at *
      have hw1 : IntKind.i64.wrap ((nF : Int) - 1) = (nF : Int) - 1 := by rw [IntKind.wrap_i64]; omega
      have hw2 : IntKind.i64.wrap ((nF : Int) - 1 - (j : Int)) = (nF : Int) - 1 - (j : Int) := by rw [IntKind.wrap_i64]; omega
      have g1 : (0 : Int) ≤ (nF : Int) - 1 - (j : Int) := by omega
      have g2 : (nF : Int) - 1 - (j : Int) < (nF : Int) := by omega
      have g3 : ((nF : Int) - 1 - (j : Int)).toNat = nF - 1 - j := by omega
      go_wp2_with fail
      have hst := step_at (p := 0) (vr := 0) HT5.out.B Hev.out Hser.out (Hlenr.out j) (Hfitr.out j)
      unfold recVal at hst
      refine hst.mono ?_
      clear hst f0 f1 f2 f3
      rintro x w6 ⟨rfl, hS, hK⟩
      rw [← Hdr.out] at hS
      have HT6 := hid (HT5.out.stepB hS hK)
      have HR6 := hid (slR_kept HR5.out hK HT5.out.B.sIn HT5.out.B.mIn)
      have HE6 := hid (HE5.out.trans (HT5.out.belowB hK (Nat.le_trans Hbx.out HE5.out.size)))
      clear hS hK HT5 HR5 HE5 Hev hw1 hw2 g1 g2 g3 Hdr
      generalize (StepF d8 er (foldE d8 [] (fl.reverse.take j))).1 = z2
      obtain ⟨b0, o0, T, t1, t2, U, u1, u2, hA0, f0, f1, f2, f3, hev⟩ := evS_at (HR6).out j hjx
      cases hA0
      have Hev := hid hev
      clear hev
      rw [Hge.out] at f0 f1 Hev
      have HF := hid (And.intro f0 (And.intro f1 (And.intro f2 f3)))
      clear f0 f1 f2 f3
      have HB6 := hid (show w6.cell? ⟨w.heap.size, 2, none⟩ = some (.slice A n8 c) from by
        rw [HE6.out.cell (p := ⟨w.heap.size, 2, none⟩) (Nat.lt_succ_self _)]; exact HDb.out.cells.2.2)
      have HQ6 := hid (show SlR RCl w6 (· < w6.heap.size) A n8 c d8.q from (HQ.out.ext fun k hk => HE6.out.block k (by omega)).mono fun k hk => by have := HE6.out.size; have := Hbx.out; omega)
      go_wp2_with fail
      apply wp_drawn [isV _, isV _, isV _, isV _, isV _, isV _, isV (.bool (matchQ d8.q e)), isV (.bool (matchQ d8.q e))] (by kernel_rfl)
      · kernel_rfl
      · refine ⟨?fos0, ?fos1, ?fos2, ?fos3, ?fos4, ?fos5, ?fos6, ?fos7, trivial⟩
        case fos0 =>
          intro v W hE hd; simp only [Region.wanted, ↓reduceIte]; (try simp [deps, waitsOn, Region.binds, knowing, isV, ownsV, anyV] at hd); simp only [putAll, List.take_succ_cons, List.take_zero, List.drop_succ_cons, List.drop_zero, Act.put, List.setIfInBounds_toArray, List.set_cons_zero, List.set_cons_succ, Nat.zero_add, Nat.reduceAdd]; go_simp; exact ⟨Below.refl _ _, rfl⟩
        case fos1 =>
          intro v W hE hd; simp only [Region.wanted, ↓reduceIte]; (try simp [deps, waitsOn, Region.binds, knowing, isV, ownsV, anyV] at hd); simp only [putAll, List.take_succ_cons, List.take_zero, List.drop_succ_cons, List.drop_zero, Act.put, List.setIfInBounds_toArray, List.set_cons_zero, List.set_cons_succ, Nat.zero_add, Nat.reduceAdd]
          have e1 := cell_below hE HB6.out
          go_simp
          exact ⟨Below.refl _ _, rfl⟩
        case fos2 =>
          intro v W hE hd; simp only [Region.wanted, ↓reduceIte]; (try simp [deps, waitsOn, Region.binds, knowing, isV, ownsV, anyV] at hd); simp only [putAll, List.take_succ_cons, List.take_zero, List.drop_succ_cons, List.drop_zero, Act.put, List.setIfInBounds_toArray, List.set_cons_zero, List.set_cons_succ, Nat.zero_add, Nat.reduceAdd]; go_simp; exact ⟨Below.refl _ _, rfl⟩
        case fos3 =>
          intro v W hE hd; simp only [Region.wanted, ↓reduceIte]; (try simp [deps, waitsOn, Region.binds, knowing, isV, ownsV, anyV] at hd); simp only [putAll, List.take_succ_cons, List.take_zero, List.drop_succ_cons, List.drop_zero, Act.put, List.setIfInBounds_toArray, List.set_cons_zero, List.set_cons_succ, Nat.zero_add, Nat.reduceAdd]; go_simp; exact ⟨Below.refl _ _, rfl⟩
        case fos4 =>
          intro v W hE hd; simp only [Region.wanted, ↓reduceIte]; (try simp [deps, waitsOn, Region.binds, knowing, isV, ownsV, anyV] at hd); simp only [putAll, List.take_succ_cons, List.take_zero, List.drop_succ_cons, List.drop_zero, Act.put, List.setIfInBounds_toArray, List.set_cons_zero, List.set_cons_succ, Nat.zero_add, Nat.reduceAdd]; go_simp; exact ⟨Below.refl _ _, rfl⟩
        case fos5 =>
          intro v W hE hd; simp only [Region.wanted, ↓reduceIte]; (try simp [deps, waitsOn, Region.binds, knowing, isV, ownsV, anyV] at hd); simp only [putAll, List.take_succ_cons, List.take_zero, List.drop_succ_cons, List.drop_zero, Act.put, List.setIfInBounds_toArray, List.set_cons_zero, List.set_cons_succ, Nat.zero_add, Nat.reduceAdd]
          obtain ⟨f0, f1, f2, f3⟩ := HF.out
          have e0 := cell_below hE f0; have e1 := cell_below hE f1; have e2 := cell_below hE f2; have e3 := cell_below hE f3
          go_simp
          exact ⟨Below.refl _ _, rfl⟩
        case fos6 =>
          intro v W hE hd; simp only [Region.wanted, ↓reduceIte]; (try simp [deps, waitsOn, Region.binds, knowing, isV, ownsV, anyV] at hd); simp only [putAll, List.take_succ_cons, List.take_zero, List.drop_succ_cons, List.drop_zero, Act.put, List.setIfInBounds_toArray, List.set_cons_zero, List.set_cons_succ, Nat.zero_add, Nat.reduceAdd]
          go_simp
          have hcc := refMatch_at (HQ6.out.grow hE) (Hev.out.ext hE).is
          unfold evVal at hcc
          refine hcc.mono ?_
          rintro x w' ⟨rfl, hE2⟩
          have HE2 := hid hE2
          clear hE2 hcc
          go_simp
          exact ⟨HE2.out, rfl⟩
        case fos7 =>
          intro v W hE hd; simp only [Region.wanted, ↓reduceIte]; (try simp [deps, waitsOn, Region.binds, knowing, isV, ownsV, anyV] at hd); simp only [putAll, List.take_succ_cons, List.take_zero, List.drop_succ_cons, List.drop_zero, Act.put, List.setIfInBounds_toArray, List.set_cons_zero, List.set_cons_succ, Nat.zero_add, Nat.reduceAdd]
          go_simp
          exact ⟨Below.refl _ _, rfl⟩
      · rintro v W9 hE ⟨-, -, -, -, -, -, -, e7, -⟩
        have e7 := (show v 7 = _ from e7)
        simp only [putAll, List.take_succ_cons, List.take_zero, List.drop_succ_cons, List.drop_zero, Act.put, List.setIfInBounds_toArray, List.set_cons_zero, List.set_cons_succ, Nat.zero_add, Nat.reduceAdd]
        rw [e7]
        have HT9 := hid (HT6.out.ext hE)
        have HR9 := hid (slR_more HR6.out hE (S' := S6 a ma b mb cc mc) (fun _ hk => .inl hk))
        have HE9 := hid (HE6.out.trans (hE.mono (Nat.le_trans Hbx.out HE6.out.size)))
        have HEW := hid hE
        clear e7 hE
        cases hm : matchQ d8.q e
        · have Hdc := hid (show foldE d8 [] (fl.take (j + 1)) = foldE d8 [] (fl.take j) by rw [Hda.out]; unfold StepF; rw [if_neg (by rw [hm]; decide)])
          have HT10 := hid (show Three (w.heap.size + 1) (S6 a ma b mb cc mc) a ma b mb cc mc d8 d8 d8 W9 (foldE d8 [] (fl.take (j + 1))) (foldE d8 [] (fl.reverse.take (j + 1))) (foldE d8 [] (fl.take (j + 1))) by
            have := HT9.out; rw [← Hdc.out] at this; exact this)
          clear hm HT9
          go_wp2_with fail
          go_roundw
          case rel => exact ⟨j + 1, by omega, by go_num, HT10, HR9, HE9⟩
          case measure => simp [intOf]; omega
        · clear hm
          obtain ⟨f0, f1, f2, f3⟩ := HF.out
          have f0 := cell_below HEW.out f0; have f1 := cell_below HEW.out f1; have f2 := cell_below HEW.out f2; have f3 := cell_below HEW.out f3
          go_wp2_with fail
          have hst := step_at (p := 0) (vr := 0) HT9.out.C (Hev.out.ext HEW.out) Hse.out (Hlen.out j) (Hfit.out j)
          unfold recVal at hst
          refine hst.mono ?_
          clear hst f0 f1 f2 f3
          rintro x w10 ⟨rfl, hS, hK⟩
          rw [← Hda.out] at hS
          have HT10 := hid (HT9.out.stepC hS hK)
          have HR10 := hid (slR_kept HR9.out hK HT9.out.C.sIn HT9.out.C.mIn)
          have HE10 := hid (HE9.out.trans (HT9.out.belowC hK (Nat.le_trans Hbx.out HE9.out.size)))
          clear hS hK HT9 HR9 HE9
          generalize (StepF d8 e (foldE d8 [] (fl.take j))).1 = z3
          go_wp2_with fail
          go_roundw
          case rel => exact ⟨j + 1, by omega, by go_num, HT10, HR10, HE10⟩
          case measure => simp [intOf]; omega
    · obtain rfl : j = nF := by omega
      have hlt' : ¬ ((j : Int) < (j : Int)) := by omega
      have hall : fl.take j = fl := List.take_of_length_le (by have := HnF.out; omega)
      have hallr : fl.reverse.take j = fl.reverse := List.take_of_length_le (by rw [List.length_reverse]; have := HnF.out; omega)
      rw [hall, hallr] at HT
      rw [← fold_reverse Hk3.out Hnm.out (by have := HnF.out; omega) Hsm.out HT.out.A.map.up HT.out.B.map.up] at HT
      have Hl1 := hid (show (foldE d8 [] fl).length < 1000000 by have := Hlen.out j; rw [hall] at this; omega)
      clear hall hallr HR
      generalize foldE d8 [] fl = DD at *
      go_wp2_with fail
      refine (entries_at HT.out.A Hl1.out).mono ?_
      rintro e w9g ⟨v, rfl, hO, hE9⟩
      obtain ⟨Aag, cag, rfl, hRa⟩ := ownK_out (S := fun _ => False) hO (fun k hk => hk.elim) (fun k hk => hk.elim)
      have HRa := hid hRa
      have HT9g := hid (HT.out.ext hE9)
      have HE9g := hid (HE.out.trans (hE9.mono (Nat.le_trans Hbx.out HE.out.size)))
      have Hlx := hid (show DD.length = DD.length from rfl)
      clear hO hE9 hRa
      generalize hlb : DD.length = lb at HRa ⊢
      go_wp2_with fail
      refine (entries_at (show StIs w9g _ _ _ _ _ DD from by have := HT9g.out; first | exact this.B | exact this.C) Hl1.out).mono ?_
      rintro e w10g ⟨v, rfl, hO, hE10⟩
      obtain ⟨Acg, ccg, rfl, hRc⟩ := ownK_out (S := fun _ => False) hO (fun k hk => hk.elim) (fun k hk => hk.elim)
      rw [hlb] at hRc ⊢
      have HRc := hid hRc
      have HRa2 := hid (slR_more HRa.out hE10 (S' := fun _ => False) (fun _ h => h.elim))
      have HT10g := hid (HT9g.out.ext hE10)
      have HE10g := hid (HE9g.out.trans (hE10.mono (Nat.le_trans Hbx.out HE9g.out.size)))
      clear hO hE10 hRc HRa hlb
      go_wp2_with fail
      have hsm := same_at HRa2.out HRc.out
      rw [decide_eq_true (show DD = DD from rfl)] at hsm
      refine hsm.mono ?_
      clear hsm HRa2 HRc
      rintro e w11g ⟨rfl, hE11⟩
      have HT2g := hid (HT10g.out.ext hE11)
      have HE2g := hid (HE10g.out.trans (hE11.mono (Nat.le_trans Hbx.out HE10g.out.size)))
      clear hE11 HT9g HT10g HE9g HE10g
      go_wp2_with fail
      refine (entries_at HT2g.out.A Hl1.out).mono ?_
      rintro e w9h ⟨v, rfl, hO, hE9⟩
      obtain ⟨Aah, cah, rfl, hRa⟩ := ownK_out (S := fun _ => False) hO (fun k hk => hk.elim) (fun k hk => hk.elim)
      have HRa := hid hRa
      have HT9h := hid (HT2g.out.ext hE9)
      have HE9h := hid (HE2g.out.trans (hE9.mono (Nat.le_trans Hbx.out HE2g.out.size)))
      have Hlx := hid (show DD.length = DD.length from rfl)
      clear hO hE9 hRa
      generalize hlb : DD.length = lb at HRa ⊢
      go_wp2_with fail
      refine (entries_at (show StIs w9h _ _ _ _ _ DD from by have := HT9h.out; first | exact this.B | exact this.C) Hl1.out).mono ?_
      rintro e w10h ⟨v, rfl, hO, hE10⟩
      obtain ⟨Ach, cch, rfl, hRc⟩ := ownK_out (S := fun _ => False) hO (fun k hk => hk.elim) (fun k hk => hk.elim)
      rw [hlb] at hRc ⊢
      have HRc := hid hRc
      have HRa2 := hid (slR_more HRa.out hE10 (S' := fun _ => False) (fun _ h => h.elim))
      have HT10h := hid (HT9h.out.ext hE10)
      have HE10h := hid (HE9h.out.trans (hE10.mono (Nat.le_trans Hbx.out HE9h.out.size)))
      clear hO hE10 hRc HRa hlb
      go_wp2_with fail
      have hsm := same_at HRa2.out HRc.out
      rw [decide_eq_true (show DD = DD from rfl)] at hsm
      refine hsm.mono ?_
      clear hsm HRa2 HRc
      rintro e w11h ⟨rfl, hE11⟩
      have HT2h := hid (HT10h.out.ext hE11)
      have HE2h := hid (HE10h.out.trans (hE11.mono (Nat.le_trans Hbx.out HE10h.out.size)))
      clear hE11 HT9h HT10h HE9h HE10h
      have HEfin := hid (HEw.out.trans (HE2h.out.mono (Nat.le_succ _)))
      go_wp2
      go_ret
      exact ⟨rfl, HEfin.out⟩
end Go.Proofs.Ytpmmapcjohmniaa
