/- The law FoldParts. -/
import Derived.Test.YtpmmapcjohmniaaThree
namespace Go.Proofs.Ytpmmapcjohmniaa
open Go Go.RowKit
set_option linter.unusedSimpArgs false
set_option linter.unusedVariables false

set_option maxRecDepth 100000 in
set_option maxHeartbeats 4000000 in
theorem foldParts_in (kd : Int) (fd : Str) (A : Option Addr) (n c : Nat) (q : List ClV) (A1 : Option Addr) (n1 c1 : Nat) (l : List EvV) (at_ : Int) (w : World) (hkd : I64 kd) (hfd : Short fd) (hq : SlR RCl w (· < w.heap.size) A n c q) (hl : SlR REv w (· < w.heap.size) A1 n1 c1 l) (hat : -9223372036854775808 ≤ at_ ∧ at_ ≤ 9223372036854775807) :
    Calls Try.prog 6 #[.agg #[.int .i64 kd, .string (str fd), .slice A n c], .slice A1 n1 c1, .int .i64 at_] w fun e w' => e = .returned (.bool true) ∧ Below w.heap.size w w' := by
  obtain ⟨d, rfl, rfl, rfl⟩ : ∃ d : DefV, kd = d.kind ∧ fd = d.field ∧ q = d.q := ⟨⟨kd, fd, q⟩, rfl, rfl, rfl⟩
  have hn := hid hq.1
  have hnc := hq.2.1
  have hcm := hq.2.2.1
  have Hq := hid (show SlR RCl w (· < w.heap.size) A d.q.length c d.q by have := hq; rw [hq.1] at this; exact this)
  have Hl := hid hl
  clear hq hl hkd hfd
  go_enter Try.func6, Try.ntmps6
  have HE0 := hid (ext_alloc w (.cells #[.int .i64 d.kind, .string (str d.field), .slice A n c] 33))
  have Hbx := hid (show DefBox w.heap.size d A n c (w.alloc (.cells #[.int .i64 d.kind, .string (str d.field), .slice A n c] 33)) from heap_alloc_last _ _)
  go_wp2_with fail
  refine (shown_at _).mono ?_
  rintro e w0 ⟨rfl, hE0⟩
  have HE1 := hid (HE0.out.trans' hE0)
  have Hb1 := hid (Hbx.out.ext hE0)
  clear hE0
  obtain ⟨b0, b1, b2⟩ := Hb1.out.cells
  have fz := Hb1.out.free 2
  go_upto_if 22 with (fail)
  go_cut [7] (fun h wx => h = .bool true ∧ Hid (DefAt w (cut8 d) A c wx))
  case first =>
    by_cases h8 : 8 < n
    · have h8' : (8 : Int) < (n : Int) := by omega
      have HD := hid (DefAt.long (by rw [← hn.out]; exact Hb1.out) Hq.out HE1.out (by have := hn.out; omega))
      have g8 : (8 : Int) ≤ (c : Int) := by omega
      go_wp2_with fail
      go_meet
      case rel => exact ⟨rfl, HD⟩
    · have h8' : ¬ ((8 : Int) < (n : Int)) := by omega
      have HD := hid (DefAt.short (by rw [← hn.out]; exact Hb1.out) Hq.out HE1.out (by have := hn.out; omega))
      go_wp2_with fail
      go_meet
      case rel => exact ⟨rfl, HD⟩
  case rest =>
  obtain ⟨rfl, HD⟩ := hcut
  clear HE0 Hbx HE1 Hb1 b0 b1 b2 fz
  obtain ⟨d0, d1, d2⟩ := HD.out.box.cells
  have Hq8 := hid (HD.out.q.grow' HD.out.ext.size)
  generalize hd8 : cut8 d = d8 at *
  clear hd8
  generalize hn8 : d8.q.length = n8 at d2 Hq8
  have Hn8 := hid hn8; clear hn8
  have HDb := hid (show DefBox w.heap.size d8 A n8 c wc from by have := HD.out.box; rwa [Hn8.out] at this)
  go_wp2_with fail
  have hnew := foldNew_at (d := d8) Hq8.out
  unfold defVal at hnew
  refine hnew.mono ?_
  clear hnew d0 d1 d2
  rintro e w1 ⟨hEb, hres⟩
  have HEold := hid hEb
  clear hEb
  rcases hres with ⟨hne, rfl⟩ | ⟨Hok, a, ma, rfl, hsa, hma, hN⟩
  · obtain ⟨me, hme⟩ : ∃ me, mayDef d8 = me := ⟨_, rfl⟩
    have Hne := hid hne
    rw [hme] at hne ⊢
    have Hme := hid hme
    clear hme
    obtain ⟨d0, d1, d2⟩ := (HDb.out.ext HEold.out).cells
    go_wp2_with fail
    have hnew := foldNew_at (d := d8) (Hq8.out.grow HEold.out)
    unfold defVal at hnew
    refine hnew.mono ?_
    clear hnew d0 d1 d2
    rintro e w2 ⟨hEb, hres⟩
    rcases hres with ⟨hne2, rfl⟩ | ⟨h0, -⟩
    rotate_left
    · exact absurd h0 Hne.out
    rw [Hme.out]
    have HE0 := hid (HEold.out.trans' hEb)
    clear hEb HEold hne2
    have HEold := HE0
    obtain ⟨d0, d1, d2⟩ := (HDb.out.ext HEold.out).cells
    go_wp2_with fail
    have hnew := foldNew_at (d := d8) (Hq8.out.grow HEold.out)
    unfold defVal at hnew
    refine hnew.mono ?_
    clear hnew d0 d1 d2
    rintro e w3 ⟨hEb, hres⟩
    rcases hres with ⟨hne2, rfl⟩ | ⟨h0, -⟩
    rotate_left
    · exact absurd h0 Hne.out
    rw [Hme.out]
    have HE0 := hid (HEold.out.trans' hEb)
    clear hEb HEold hne2
    have HEold := HE0
    have hneb : (me != 0) = true := by simpa using hne
    have hneb2 : (me == 0) = false := by simpa using hne
    go_wp2
    go_ret
    exact ⟨rfl, HD.out.ext.trans' HEold.out⟩
  have HOK := hid Hok
  have HNa := hid hN
  clear hN Hok
  have HEa := HEold
  obtain ⟨d0, d1, d2⟩ := (HDb.out.ext HEold.out).cells
  go_wp2_with fail
  have hnew := foldNew_at (d := d8) (Hq8.out.grow HEold.out)
  unfold defVal at hnew
  refine hnew.mono ?_
  clear hnew d0 d1 d2
  rintro e w2 ⟨hEb, hres⟩
  rcases hres with ⟨hne, rfl⟩ | ⟨-, b, mb, rfl, hsb, hmb, hN⟩
  · exact absurd HOK.out hne
  have HEb := hid hEb
  have HNb := hid hN
  have HE0b := hid (HEold.out.trans' hEb)
  clear hEb hN HEold
  have HEold := HE0b
  obtain ⟨d0, d1, d2⟩ := (HDb.out.ext HEold.out).cells
  go_wp2_with fail
  have hnew := foldNew_at (d := d8) (Hq8.out.grow HEold.out)
  unfold defVal at hnew
  refine hnew.mono ?_
  clear hnew d0 d1 d2
  rintro e w3 ⟨hEb, hres⟩
  rcases hres with ⟨hne, rfl⟩ | ⟨-, cc, mc, rfl, hscc, hmcc, hN⟩
  · exact absurd HOK.out hne
  have HEcc := hid hEb
  have HNcc := hid hN
  have HE0cc := hid (HEold.out.trans' hEb)
  clear hEb hN HEold
  have HEold := HE0cc
  obtain ⟨d0, d1, d2⟩ := (HDb.out.ext HEold.out).cells
  have HT := hid (three_new (n0 := w.heap.size) HD.out.ext.size HNa.out HNb.out HNcc.out HEa.out (Below.refl _ _) HEb.out (Below.refl _ _) HEcc.out hsa hma hsb hmb hscc hmcc)
  have HE3 := hid (HD.out.ext.trans' HEold.out)
  clear HNa HNb HNcc HEa HEb HEcc HE0b HE0cc HEold hsa hma hsb hmb hscc hmcc HDb HD Hq8 d0 d1 d2 HOK
  go_wp2_with fail
  refine (few_at (Hl.out.ext fun k hk => HE3.out.block k hk) (fun k hk => Nat.lt_of_lt_of_le hk HE3.out.size)).mono ?_
  rintro e wF ⟨v, rfl, hO, hE⟩
  obtain ⟨AF, cF, rfl, hR⟩ := ownK_out (S := S6 a ma b mb cc mc) hO (fun k hk => ⟨Nat.lt_of_lt_of_le hk (Nat.le_trans HE3.out.size hE.size), fun h => by have := HT.out.lo k h; omega⟩) (fun k hk => by
    have h1 := HT.out.A.lt; have h2 := HT.out.B.lt; have h3 := HT.out.C.lt
    rcases hk with h | h | h | h | h | h <;> omega)
  have HTF := hid (HT.out.ext hE)
  have HEF := hid (HE3.out.trans' hE)
  have Hsm := hid (show ∀ e ∈ fewF l, SmallE e from fun e he => small_may (few_may he))
  have hfl := few_len l
  have hnF := hR.1
  have hncF := hR.2.1
  have hcmF := hR.2.2.1
  have HRF := hid hR
  clear hO hE hR HT HE3
  generalize fewF l = fl at *
  generalize hnn : fl.length = nF at *
  have HnF := hid hnn
  clear hnn hnF
  go_upto_region 11 with (fail)
  go_cut [78] (fun x wx => x = .bool (decide (0 < at_ ∧ at_ < (nF : Int))) ∧ Hid (wx = wF))
  case first =>
    by_cases h1 : 0 < at_
    · by_cases h2 : at_ < (nF : Int)
      · have hd := hid (show decide (0 < at_ ∧ at_ < (nF : Int)) = true from decide_eq_true ⟨h1, h2⟩)
        go_wp2_with fail
        go_meet
        case rel => exact ⟨by rw [hd.out], hid rfl⟩
      · have hd := hid (show decide (0 < at_ ∧ at_ < (nF : Int)) = false from decide_eq_false fun h => h2 h.2)
        go_wp2_with fail
        go_meet
        case rel => exact ⟨by rw [hd.out], hid rfl⟩
    · have hd := hid (show decide (0 < at_ ∧ at_ < (nF : Int)) = false from decide_eq_false fun h => h1 h.1)
      go_wp2_with fail
      go_meet
      case rel => exact ⟨by rw [hd.out], hid rfl⟩
  case rest =>
  obtain ⟨rfl, hw⟩ := hcut
  obtain rfl := hw.out
  clear hw
  have Hkb := hid (show decide (0 < at_ ∧ at_ < (nF : Int)) = true → ∃ k : Nat, k ≤ nF ∧ at_ = (k : Int) from fun h => by
    have := of_decide_eq_true h
    exact ⟨at_.toNat, by omega, by omega⟩)
  generalize decide (0 < at_ ∧ at_ < (nF : Int)) = kb at *
  go_upto_if 78 with (fail)
  go_cut [14] (fun kk wx => Hid (wx = wc) ∧ ∃ k : Nat, k ≤ nF ∧ kk = .int .i64 (k : Int))
  case first =>
    cases kb
    · go_wp2_with fail
      go_meet
      case rel => exact ⟨hid rfl, 0, by omega, rfl⟩
    · obtain ⟨k, hk, rfl⟩ := Hkb.out rfl
      go_wp2_with fail
      go_meet
      case rel => exact ⟨hid rfl, k, hk, rfl⟩
  case rest =>
  obtain ⟨hw, k, hk, rfl⟩ := hcut
  obtain rfl := hw.out
  clear hw Hkb
  go_wp2_with fail
  clear Hq Hl hn hnc hcm Hn8 hat
  have Hn8 := hid HnF.out
  go_loopw [15] (fun i wr => ∃ j : Nat, j ≤ nF ∧ i = .int .i64 (j : Int) ∧ Hid (Three w.heap.size (S6 a ma b mb cc mc) a ma b mb cc mc d8 d8 d8 wr (foldE d8 [] (fl.take j)) (foldE d8 [] (fl.take (min j k))) []) ∧ Hid (SlR REv wr (Out (S6 a ma b mb cc mc) wr) AF nF cF fl) ∧ Hid (Ext w wr)) (fun i _ => nF - (intOf i).toNat)
  case atStart => exact ⟨0, by omega, rfl, by rw [Nat.zero_min]; exact HTF, HRF, HEF⟩
  case round =>
    obtain ⟨j, hj, rfl, HT, HR, HE⟩ := hrel
    clear HTF HRF HEF
    by_cases hlt : j < nF
    · have hjx : j < fl.length := by have := HnF.out; omega
      have hlt' : (j : Int) < (nF : Int) := by omega
      have hk00 : ¬ ((j : Int) < 0) := by omega
      have hk0 : (0 : Int) ≤ (j : Int) := by omega
      have hse := Hsm.out _ (List.getElem_mem hjx)
      have Hse := hid hse
      have Hda := hid (foldE_take d8 [] hjx)
      have hob := fun i => okD_fold (d := d8) (fl.take i) (fun e he => Hsm.out e (List.mem_of_mem_take he)) (by rw [List.length_take]; have := HnF.out; omega)
      have Hlen := hid (show ∀ i, (foldE d8 [] (fl.take i)).length + 1000 < 1000000 from fun i => by have := (hob i).2; rw [List.length_take] at this; have := HnF.out; omega)
      have Hfit := hid (show ∀ i, FitB 2305843009213693952 (foldE d8 [] (fl.take i)) from fun i => (hob i).1.fit.le (by decide))
      clear hob hse
      obtain ⟨b0, o0, T, t1, t2, U, u1, u2, hA0, f0, f1, f2, f3, hev⟩ := evS_at (HR).out j hjx
      cases hA0
      have Hev := hid hev
      clear hev
      generalize hge : fl[j] = e at *
      have Hge := hid hge
      clear hge
      go_wp2_with fail
      have hst := step_at (p := 0) (vr := 0) HT.out.A Hev.out Hse.out (Hlen.out j) (Hfit.out j)
      unfold recVal at hst
      refine hst.mono ?_
      clear hst f0 f1 f2 f3
      rintro x w5 ⟨rfl, hS, hK⟩
      rw [← Hda.out] at hS
      have HT5 := hid (HT.out.stepA hS hK)
      have HR5 := hid (slR_kept HR.out hK HT.out.A.sIn HT.out.A.mIn)
      have HE5 := hid (HE.out.trans (HT.out.belowA hK HE.out.size))
      clear hS hK HT HR HE Hev
      generalize (StepF d8 e (foldE d8 [] (fl.take j))).1 = z1
      by_cases hjk : j < k
      · have hjk' : (j : Int) < (k : Int) := by omega
        rw [Nat.min_eq_left (by omega : j ≤ k)] at HT5
        obtain ⟨b0, o0, T, t1, t2, U, u1, u2, hA0, f0, f1, f2, f3, hev⟩ := evS_at (HR5).out j hjx
        cases hA0
        have Hev := hid hev
        clear hev
        rw [Hge.out] at f0 f1 Hev
        go_wp2_with fail
        have hst := step_at (p := 0) (vr := 0) HT5.out.B Hev.out Hse.out (Hlen.out j) (Hfit.out j)
        unfold recVal at hst
        refine hst.mono ?_
        clear hst f0 f1 f2 f3
        rintro x w6 ⟨rfl, hS, hK⟩
        rw [← Hda.out] at hS
        have HT6 := hid (show Three w.heap.size (S6 a ma b mb cc mc) a ma b mb cc mc d8 d8 d8 w6 (foldE d8 [] (fl.take (j + 1))) (foldE d8 [] (fl.take (min (j + 1) k))) [] by
          rw [Nat.min_eq_left (by omega : j + 1 ≤ k)]; exact HT5.out.stepB hS hK)
        have HR6 := hid (slR_kept HR5.out hK HT5.out.B.sIn HT5.out.B.mIn)
        have HE6 := hid (HE5.out.trans (HT5.out.belowB hK HE5.out.size))
        clear hS hK HT5 HR5 HE5 Hev
        generalize (StepF d8 e (foldE d8 [] (fl.take j))).1 = z2
        go_wp2_with fail
        go_roundw
        case rel => exact ⟨j + 1, by omega, by go_num, HT6, HR6, HE6⟩
        case measure => simp [intOf]; omega
      · have hjk' : ¬ ((j : Int) < (k : Int)) := by omega
        have HT6 := hid (show Three w.heap.size (S6 a ma b mb cc mc) a ma b mb cc mc d8 d8 d8 w5 (foldE d8 [] (fl.take (j + 1))) (foldE d8 [] (fl.take (min (j + 1) k))) [] by
          have := HT5.out; rw [Nat.min_eq_right (by omega : k ≤ j)] at this; rw [Nat.min_eq_right (by omega : k ≤ j + 1)]; exact this)
        go_wp2_with fail
        go_roundw
        case rel => exact ⟨j + 1, by omega, by go_num, HT6, HR5, HE5⟩
        case measure => simp [intOf]; omega
    · obtain rfl : j = nF := by omega
      have hlt' : ¬ ((j : Int) < (j : Int)) := by omega
      rw [Nat.min_eq_right hk] at HT
      have hall : fl.take j = fl := List.take_of_length_le (by have := HnF.out; omega)
      rw [hall] at HT
      have hob := fun i => okD_fold (d := d8) (fl.take i) (fun e he => Hsm.out e (List.mem_of_mem_take he)) (by rw [List.length_take]; have := HnF.out; omega)
      have Hlen := hid (show ∀ i, (foldE d8 [] (fl.take i)).length + 1000 < 1000000 from fun i => by have := (hob i).2; rw [List.length_take] at this; have := HnF.out; omega)
      have Hfit := hid (show ∀ i, FitB 2305843009213693952 (foldE d8 [] (fl.take i)) from fun i => (hob i).1.fit.le (by decide))
      have hokb := (hob k).1.loads HT.out.B.map.up
      have Hok := hid hokb
      have Hint := hid (show ∀ p ∈ foldE d8 [] (fl.take k), -9223372036854775808 ≤ p.2 ∧ p.2 ≤ 9223372036854775807 from fun p hp => by have := (Hfit.out k) p hp; omega)
      clear hob hokb
      go_wp2_with fail
      refine (entries_at HT.out.B (by have := Hlen.out k; omega)).mono ?_
      rintro e w7 ⟨v, rfl, hO, hE7⟩
      obtain ⟨Ab, cb, rfl, hRb⟩ := ownK_out (S := S6 a ma b mb cc mc) hO (fun k hk => hk.elim) (fun k hk => by
        have h1 := HT.out.A.lt; have h2 := HT.out.B.lt; have h3 := HT.out.C.lt
        rcases hk with h | h | h | h | h | h <;> omega)
      have HRb := hid hRb
      have HT7 := hid (HT.out.ext hE7)
      have HR7 := hid (slR_more HR.out hE7 (S' := S6 a ma b mb cc mc) (fun _ hk => .inl hk))
      have HE7 := hid (HE.out.trans (hE7.mono HE.out.size))
      clear hO hE7 hRb HT HR HE
      generalize hlb : (foldE d8 [] (fl.take k)).length = lb at HRb ⊢
      clear hlb
      go_wp2_with fail
      have hld := load_at HT7.out.C HRb.out (by have := Hlen.out k; omega) Hint.out
      rw [loadE_ok Hok.out] at hld
      refine hld.mono ?_
      clear hld
      rintro e w8 ⟨rfl, ⟨m2, hm2, hS8⟩, hK8⟩
      rw [loadF_ok Hok.out] at hS8
      have HT8 := hid (three_load HT7.out hm2 hS8 hK8 HE7.out.size)
      have HR8 := hid (show SlR REv w8 (Out (fun k => S6 a ma b mb cc mc k ∨ k = m2) w8) AF j cF fl from
        slR_kept (slR_more HR7.out (Below.refl _ _) (S' := fun k => S6 a ma b mb cc mc k ∨ k = m2) (more_load hm2 HT7.out.C.mIn)) hK8 (.inl HT7.out.C.sIn) (.inl HT7.out.C.sIn))
      have HE8 := hid (HE7.out.trans (hK8.below (HT7.out.lo _ HT7.out.C.sIn) (HT7.out.lo _ HT7.out.C.sIn) HE7.out.size))
      clear hm2 hS8 hK8 HT7 HR7 HE7 HRb
      generalize (fun k => S6 a ma b mb cc mc k ∨ k = m2) = S at HT8 HR8
      have Hall := hid hall
      clear hall
      go_wp2_with fail
      go_loopw [16] (fun i wr => ∃ i2 : Nat, k ≤ i2 ∧ i2 ≤ j ∧ i = .int .i64 (i2 : Int) ∧ Hid (Three w.heap.size S a ma b mb cc m2 d8 d8 d8 wr (foldE d8 [] fl) (foldE d8 [] (fl.take k)) (foldE d8 [] (fl.take i2))) ∧ Hid (SlR REv wr (Out S wr) AF j cF fl) ∧ Hid (Ext w wr)) (fun i _ => j - (intOf i).toNat)
      case atStart => exact ⟨k, Nat.le_refl _, hk, rfl, HT8, HR8, HE8⟩
      case round =>
        obtain ⟨i2, hi2, hi3, rfl, HT, HR, HE⟩ := hrel
        clear HT8 HR8 HE8
        by_cases hlt : i2 < j
        · have hjx : i2 < fl.length := by have := HnF.out; omega
          have hlt2 : (i2 : Int) < (j : Int) := by omega
          have hk00 : ¬ ((i2 : Int) < 0) := by omega
          have hk0 : (0 : Int) ≤ (i2 : Int) := by omega
          have Hse := hid (Hsm.out _ (List.getElem_mem hjx))
          have Hda := hid (foldE_take d8 [] hjx)
          obtain ⟨b0, o0, T, t1, t2, U, u1, u2, hA0, f0, f1, f2, f3, hev⟩ := evS_at (HR).out i2 hjx
          cases hA0
          have Hev := hid hev
          clear hev
          generalize fl[i2] = e at *
          go_wp2_with fail
          have hst := step_at (p := 0) (vr := 0) HT.out.C Hev.out Hse.out (Hlen.out i2) (Hfit.out i2)
          unfold recVal at hst
          refine hst.mono ?_
          clear hst f0 f1 f2 f3
          rintro x w5 ⟨rfl, hS, hK⟩
          rw [← Hda.out] at hS
          have HT5 := hid (HT.out.stepC hS hK)
          have HR5 := hid (slR_kept HR.out hK HT.out.C.sIn HT.out.C.mIn)
          have HE5 := hid (HE.out.trans (HT.out.belowC hK HE.out.size))
          clear hS hK HT HR HE Hev
          generalize (StepF d8 e (foldE d8 [] (fl.take i2))).1 = z1
          go_wp2_with fail
          go_roundw
          case rel => exact ⟨i2 + 1, by omega, by omega, by go_num, HT5, HR5, HE5⟩
          case measure => simp [intOf]; omega
        · obtain rfl : i2 = j := by omega
          have hlt2 : ¬ ((i2 : Int) < (i2 : Int)) := by omega
          rw [Hall.out] at HT
          have Hl1 := hid (show (foldE d8 [] fl).length < 1000000 by have := Hlen.out i2; rw [Hall.out] at this; omega)
          clear HR
          go_wp2_with fail
          refine (entries_at HT.out.A Hl1.out).mono ?_
          rintro e w9 ⟨v, rfl, hO, hE9⟩
          obtain ⟨Aa, ca, rfl, hRa⟩ := ownK_out (S := fun _ => False) hO (fun k hk => hk.elim) (fun k hk => hk.elim)
          have HRa := hid hRa
          have HT9 := hid (HT.out.ext hE9)
          have HE9 := hid (HE.out.trans (hE9.mono HE.out.size))
          clear hO hE9 hRa HT HE
          generalize hlb : (foldE d8 [] fl).length = lb at HRa ⊢
          go_wp2_with fail
          refine (entries_at HT9.out.C Hl1.out).mono ?_
          rintro e w10 ⟨v, rfl, hO, hE10⟩
          obtain ⟨Ac, cc', rfl, hRc⟩ := ownK_out (S := fun _ => False) hO (fun k hk => hk.elim) (fun k hk => hk.elim)
          rw [hlb] at hRc ⊢
          have HRc := hid hRc
          have HRa2 := hid (slR_more HRa.out hE10 (S' := fun _ => False) (fun _ h => h.elim))
          have HE10 := hid (HE9.out.trans (hE10.mono HE9.out.size))
          clear hO hE10 hRc HT9 HE9 HRa hlb
          go_wp2_with fail
          have hsm := same_at HRa2.out HRc.out
          rw [decide_eq_true (show foldE d8 [] fl = foldE d8 [] fl from rfl)] at hsm
          refine hsm.mono ?_
          clear hsm
          rintro e w11 ⟨rfl, hE11⟩
          have HE11 := hid (HE10.out.trans (hE11.mono HE10.out.size))
          clear hE11
          go_wp2
          go_ret
          exact ⟨rfl, HE11.out⟩
end Go.Proofs.Ytpmmapcjohmniaa
