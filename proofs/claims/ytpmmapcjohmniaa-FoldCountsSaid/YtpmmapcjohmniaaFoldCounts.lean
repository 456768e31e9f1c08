/- The law FoldCounts. -/
import Derived.Test.YtpmmapcjohmniaaThree
import Derived.Test.YtpmmapcjohmniaaFoCnt
import Derived.Deep.DeepCutAuto
namespace Go.Proofs.Ytpmmapcjohmniaa
open Go Go.RowKit
set_option linter.unusedSimpArgs false
set_option linter.unusedVariables false

/-- A record in a box of its own. -/
def RecBox (bx : Nat) (A : Option Addr) (n c : Nat) (B : Option Addr) (m d : Nat) (e : EvV) (w : World) : Prop :=
  w.heap[bx]? = some (.cells #[.int .i64 0, .int .i64 0, .string (str e.st), .string (str e.ty), .slice A n c, .slice B m d] 40)
theorem RecBox.cells {bx : Nat} {A B : Option Addr} {n c m d : Nat} {e : EvV} {w : World} (h : RecBox bx A n c B m d e w) :
    w.cell? ⟨bx, 0, none⟩ = some (.int .i64 0) ∧ w.cell? ⟨bx, 1, none⟩ = some (.int .i64 0) ∧ w.cell? ⟨bx, 2, none⟩ = some (.string (str e.st)) ∧ w.cell? ⟨bx, 3, none⟩ = some (.string (str e.ty)) ∧ w.cell? ⟨bx, 4, none⟩ = some (.slice A n c) ∧ w.cell? ⟨bx, 5, none⟩ = some (.slice B m d) := by
  refine ⟨?_, ?_, ?_, ?_, ?_, ?_⟩ <;> · rw [cell_of_row _ _ _ _ _ _ h]; rfl
theorem RecBox.kept {bx s m0 : Nat} {A B : Option Addr} {n c m d : Nat} {e : EvV} {w w' : World} (h : RecBox bx A n c B m d e w) (hk : Kept2 s m0 w w') (h1 : bx ≠ s) (h2 : bx ≠ m0) : RecBox bx A n c B m d e w' :=
  (hk.block bx (Array.getElem?_eq_some_iff.1 h).1 h1 h2).trans h
set_option maxRecDepth 100000 in
set_option maxHeartbeats 4000000 in
theorem foldCounts_in (A : Option Addr) (n c : Nat) (l : List EvV) (tag st : Str) (w : World) (hl : SlR REv w (· < w.heap.size) A n c l) (htag : tag.length ≤ 140737488351232) (hst : st.length ≤ 140737488351232) :
    Calls Try.prog 3 #[.slice A n c, .string (str tag), .string (str st)] w fun e w' => e = .returned (.bool true) ∧ Below w.heap.size w w' := by
  have hn := hid hl.1
  have hnc := hl.2.1
  have hcm := hl.2.2.1
  have Hl := hid hl
  clear hl
  go_enter Try.func3, Try.ntmps3
  go_wp2_with fail
  refine (shown_at w).mono ?_
  rintro e w0 ⟨rfl, hE0⟩
  have HE0 := hid hE0
  clear hE0
  go_wp2_with fail
  refine (all_at w0).mono ?_
  rintro e wa ⟨Aa, rfl, hA, hEa⟩
  have HA := hid (show SlR RCl wa (· < wa.heap.size) Aa 1 1 [allC] from hA.mono fun k hk => hk.2)
  have HFa := hid hEa
  clear hA hEa
  go_wp2_with fail
  have hnew := foldNew_at (d := dC) HA.out
  unfold defVal at hnew
  refine hnew.mono ?_
  clear hnew
  rintro e w1 ⟨hEb, hres⟩
  rcases hres with ⟨h, -⟩ | ⟨-, a, ma, rfl, hsa, hma, hN⟩
  · exact absurd dC_may h
  have HEa := hid hEb; have HNa := hid hN
  clear hEb hN HA
  go_wp2_with fail
  refine (all_at w1).mono ?_
  rintro e wb ⟨Aa, rfl, hA, hEa⟩
  have HA := hid (show SlR RCl wb (· < wb.heap.size) Aa 1 1 [allC] from hA.mono fun k hk => hk.2)
  have HFb := hid hEa
  clear hA hEa
  go_wp2_with fail
  have hnew := foldNew_at (d := exD) HA.out
  unfold defVal at hnew
  refine hnew.mono ?_
  clear hnew
  rintro e w2 ⟨hEb, hres⟩
  rcases hres with ⟨h, -⟩ | ⟨-, b, mb, rfl, hsb, hmb, hN⟩
  · exact absurd ex_may h
  have HEb := hid hEb; have HNb := hid hN
  clear hEb hN HA
  go_wp2_with fail
  refine (all_at w2).mono ?_
  rintro e wd ⟨Aa, rfl, hA, hEa⟩
  have HA := hid (show SlR RCl wd (· < wd.heap.size) Aa 1 1 [allC] from hA.mono fun k hk => hk.2)
  have HFcc := hid hEa
  clear hA hEa
  go_wp2_with fail
  have hnew := foldNew_at (d := dM) HA.out
  unfold defVal at hnew
  refine hnew.mono ?_
  clear hnew
  rintro e w3 ⟨hEb, hres⟩
  rcases hres with ⟨h, -⟩ | ⟨-, cc, mc, rfl, hscc, hmcc, hN⟩
  · exact absurd dM_may h
  have HEcc := hid hEb; have HNcc := hid hN
  clear hEb hN HA
  go_wp2_with fail
  have HT := hid (three_new (n0 := w.heap.size) (Nat.le_trans HE0.out.size HFa.out.size) HNa.out HNb.out HNcc.out HEa.out HFb.out HEb.out HFcc.out HEcc.out hsa hma hsb hmb hscc hmcc)
  have HE3 := hid (HE0.out.trans' (HFa.out.trans' (HEa.out.trans' (HFb.out.trans' (HEb.out.trans' (HFcc.out.trans' HEcc.out))))))
  clear HNa HNb HNcc HEa HEb HEcc HFa HFb HFcc HE0 hsa hma hsb hmb hscc hmcc
  refine (few_at (Hl.out.ext fun k hk => HE3.out.block k hk) (fun k hk => Nat.lt_of_lt_of_le hk HE3.out.size)).mono ?_
  rintro e wF ⟨v, rfl, hO, hE⟩
  obtain ⟨AF, cF, rfl, hR⟩ := ownK_out (S := S6 a ma b mb cc mc) hO (fun k hk => ⟨Nat.lt_of_lt_of_le hk (Nat.le_trans HE3.out.size hE.size), fun h => by have := HT.out.lo k h; omega⟩) (fun k hk => by
    have h1 := HT.out.A.lt; have h2 := HT.out.B.lt; have h3 := HT.out.C.lt
    rcases hk with h | h | h | h | h | h <;> omega)
  have HTF := hid (HT.out.ext hE)
  have HEF := hid (show Below w.heap.size w wF from HE3.out.trans' hE)
  have Hmay := hid (show ∀ e ∈ fewF l, mayEv e = 0 from fun e he => few_may he)
  have hfl := few_len l
  have hnF := hR.1
  have hncF := hR.2.1
  have hcmF := hR.2.2.1
  have HRF := hid hR
  clear hO hE hR HT HE3
  generalize fewF l = fl at *
  have Hsm := hid (show ∀ e ∈ fl, SmallE e from fun e he => small_may (Hmay.out e he))
  have Hnm := hid (show ∀ e ∈ fl, NumE e from fun e he => num_may (Hmay.out e he))
  have HsB := hid (sum_bound Hnm.out hfl)
  have HmB := hid (many_bound Hmay.out hfl tag st)
  have Hat := hid (fun (d : DefV) (h3 : d.kind ≠ 3) k => atI_fold h3 fl Hnm.out hfl k)
  generalize hnn : fl.length = nF at *
  have HnF := hid hnn
  clear hnn hnF
  have hob := fun (d : DefV) i => okD_fold (d := d) (fl.take i) (fun e he => Hsm.out e (List.mem_of_mem_take he)) (by rw [List.length_take]; have := HnF.out; omega)
  have Hlen := hid (show ∀ (d : DefV) i, (foldE d [] (fl.take i)).length + 1000 < 1000000 from fun d i => by have := (hob d i).2; rw [List.length_take] at this; have := HnF.out; omega)
  have Hfit := hid (show ∀ (d : DefV) i, FitB 2305843009213693952 (foldE d [] (fl.take i)) from fun d i => (hob d i).1.fit.le (by decide))
  clear hob
  go_wp2_with fail
  clear Hl hn hnc hcm
  go_loopw [14, 15, 16] (fun u v i wr => ∃ j : Nat, j ≤ nF ∧ i = .int .i64 (j : Int) ∧ u = .int .i64 (sumW exD [] (fl.take j)) ∧ v = .int .i64 (sumW dM (keyF tag st) (fl.take j)) ∧ Hid (Three w.heap.size (S6 a ma b mb cc mc) a ma b mb cc mc dC exD dM wr (foldE dC [] (fl.take j)) (foldE exD [] (fl.take j)) (foldE dM [] (fl.take j))) ∧ Hid (SlR REv wr (Out (S6 a ma b mb cc mc) wr) AF nF cF fl) ∧ Hid (Below w.heap.size w wr)) (fun _ _ i _ => nF - (intOf i).toNat)
  case atStart => exact ⟨0, by omega, rfl, rfl, rfl, HTF, HRF, HEF⟩
  case round =>
    obtain ⟨j, hj, rfl, rfl, rfl, HT, HR, HE⟩ := hrel
    clear HTF HRF HEF
    by_cases hlt : j < nF
    · have hjx : j < fl.length := by have := HnF.out; omega
      have hlt' : (j : Int) < (nF : Int) := by omega
      have hk00 : ¬ ((j : Int) < 0) := by omega
      have hk0 : (0 : Int) ≤ (j : Int) := by omega
      have Hse := hid (Hsm.out _ (List.getElem_mem hjx))
      have Hda := hid (foldE_take dC [] hjx)
      have Hdb := hid (foldE_take exD [] hjx)
      have Hdc := hid (foldE_take dM [] hjx)
      have Hv := hid (show sumW exD [] (fl.take (j + 1)) = sumW exD [] (fl.take j) + (valF fl[j].fields [110]).getD 0 by rw [sumW_take _ _ hjx, add_sum])
      have Hm := hid (show sumW dM (keyF tag st) (fl.take (j + 1)) = sumW dM (keyF tag st) (fl.take j) + if (hasT fl[j].tags tag && (fl[j].st == st)) = true then 1 else 0 by rw [sumW_take _ _ hjx, add_members (Hmay.out _ (List.getElem_mem hjx))])
      obtain ⟨b0, o0, T, t1, t2, U, u1, u2, hA0, f0, f1, f2, f3, hev⟩ := evS_at (HR).out j hjx
      cases hA0
      have Hev := hid hev
      clear hev
      generalize hge : fl[j] = e at *
      have Hge := hid hge
      clear hge
      go_wp2_with fail
      have HB0 := hid (ext_alloc wr (.cells #[.int .i64 0, .int .i64 0, .string (str e.st), .string (str e.ty), .slice T t1 t2, .slice U u1 u2] 40))
      have HX := hid (show RecBox wr.heap.size T t1 t2 U u1 u2 e (wr.alloc (.cells #[.int .i64 0, .int .i64 0, .string (str e.st), .string (str e.ty), .slice T t1 t2, .slice U u1 u2] 40)) from heap_alloc_last _ _)
      have HT1 := hid (HT.out.ext HB0.out)
      have HR1 := hid (slR_more HR.out HB0.out (S' := S6 a ma b mb cc mc) (fun _ hk => .inl hk))
      have HE1 := hid (HE.out.trans (HB0.out.mono HE.out.size))
      have Hbs := hid (show ∀ k, S6 a ma b mb cc mc k → wr.heap.size ≠ k from fun k hk => by
        have h1 := HT.out.A.lt; have h2 := HT.out.B.lt; have h3 := HT.out.C.lt
        rcases hk with h | h | h | h | h | h <;> omega)
      have Hsz := hid HE.out.size
      clear HT HR HE f0 f1 f2 f3
      generalize wr.heap.size = bx at *
      generalize wr.alloc (.cells #[.int .i64 0, .int .i64 0, .string (str e.st), .string (str e.ty), .slice T t1 t2, .slice U u1 u2] 40) = wb at *
      obtain ⟨x0, x1, x2, x3, x4, x5⟩ := HX.out.cells
      go_wp2_with fail
      have hst := step_at (p := 0) (vr := 0) HT1.out.A (Hev.out.ext HB0.out) Hse.out (Hlen.out dC j) (Hfit.out dC j)
      unfold recVal at hst
      refine hst.mono ?_
      clear hst x0 x1 x2 x3 x4 x5
      rintro x w5 ⟨rfl, hS, hK⟩
      rw [← Hda.out] at hS
      have HT5 := hid (HT1.out.stepA hS hK)
      have HR5 := hid (slR_kept HR1.out hK HT1.out.A.sIn HT1.out.A.mIn)
      have HE5 := hid (HE1.out.trans (HT1.out.belowA hK HE1.out.size))
      have HX5 := hid (HX.out.kept hK (Hbs.out _ HT1.out.A.sIn) (Hbs.out _ HT1.out.A.mIn))
      have HKa := hid hK; have HSa := hid HT1.out.A.sIn; have HSma := hid HT1.out.A.mIn
      clear hS hK HT1 HR1 HE1 HX
      generalize (StepF dC e (foldE dC [] (fl.take j))).1 = z1
      obtain ⟨x0, x1, x2, x3, x4, x5⟩ := HX5.out.cells
      have HK5 := hid (show Kept2 a ma wr w5 from (Kept2.of_ext HB0.out).trans HKa.out)
      clear HKa
      have Hev5 := hid (Hev.out.kept HK5.out HSa.out HSma.out)
      go_wp2_with fail
      have hst := step_at (p := 0) (vr := 0) HT5.out.B Hev5.out Hse.out (Hlen.out exD j) (Hfit.out exD j)
      unfold recVal at hst
      refine hst.mono ?_
      clear hst x0 x1 x2 x3 x4 x5
      rintro x w6 ⟨rfl, hS, hK⟩
      rw [← Hdb.out] at hS
      have HT6 := hid (HT5.out.stepB hS hK)
      have HR6 := hid (slR_kept HR5.out hK HT5.out.B.sIn HT5.out.B.mIn)
      have HE6 := hid (HE5.out.trans (HT5.out.belowB hK HE5.out.size))
      have HX6 := hid (HX5.out.kept hK (Hbs.out _ HT5.out.B.sIn) (Hbs.out _ HT5.out.B.mIn))
      have Hev6 := hid (Hev5.out.kept hK HT5.out.B.sIn HT5.out.B.mIn)
      clear hS hK HT5 HR5 HE5 HX5 Hev5
      generalize (StepF exD e (foldE exD [] (fl.take j))).1 = z2
      obtain ⟨x0, x1, x2, x3, x4, x5⟩ := HX6.out.cells
      go_wp2_with fail
      have hst := step_at (p := 0) (vr := 0) HT6.out.C Hev6.out Hse.out (Hlen.out dM j) (Hfit.out dM j)
      unfold recVal at hst
      refine hst.mono ?_
      clear hst x0 x1 x2 x3 x4 x5
      rintro x w7 ⟨rfl, hS, hK⟩
      rw [← Hdc.out] at hS
      have HT7 := hid (HT6.out.stepC hS hK)
      have HR7 := hid (slR_kept HR6.out hK HT6.out.C.sIn HT6.out.C.mIn)
      have HE7 := hid (HE6.out.trans (HT6.out.belowC hK HE6.out.size))
      clear hS hK HT6 HR6 HE6 HX6 Hev6 Hev HB0
      generalize (StepF dM e (foldE dM [] (fl.take j))).1 = z3
      obtain ⟨b0, o0, T, t1, t2, U, u1, u2, hA0, f0, f1, f2, f3, hev⟩ := evS_at (HR7).out j hjx
      cases hA0
      have Hev := hid hev
      clear hev
      rw [Hge.out] at f0 f1 Hev
      go_wp2_with fail
      have hcc := refValue_at Hev.out.is [110]
      unfold evVal at hcc
      refine hcc.mono ?_
      clear hcc f0 f1 f2 f3
      rintro x w8 ⟨rfl, hE⟩
      have HT8 := hid (HT7.out.ext hE)
      have HR8 := hid (slR_more HR7.out hE (S' := S6 a ma b mb cc mc) (fun _ hk => .inl hk))
      have HE8 := hid (HE7.out.trans (hE.mono HE7.out.size))
      have HvB := hid (valF_num (Hnm.out _ (List.getElem_mem hjx)) [110])
      rw [Hge.out] at HvB
      clear hE HT7 HR7 HE7 Hev
      generalize (valF e.fields [110]).getD 0 = v at *
      generalize (valF e.fields [110]).isSome = vb at *
      have hb1 := HsB.out j
      have hb2 := HvB.out
      have hw1 : IntKind.i64.wrap (sumW exD [] (fl.take j) + v) = sumW exD [] (fl.take (j + 1)) := by rw [Hv.out, IntKind.wrap_i64]; omega
      clear hb1 hb2
      obtain ⟨b0, o0, T, t1, t2, U, u1, u2, hA0, f0, f1, f2, f3, hev⟩ := evS_at (HR8).out j hjx
      cases hA0
      have Hev := hid hev
      clear hev
      rw [Hge.out] at f0 f1 Hev
      go_wp2_with fail
      have hcc := refHas_at Hev.out.is tag
      unfold evVal at hcc
      refine hcc.mono ?_
      clear hcc f0 f1 f2 f3
      rintro x w9 ⟨rfl, hE⟩
      have HT9 := hid (HT8.out.ext hE)
      have HR9 := hid (slR_more HR8.out hE (S' := S6 a ma b mb cc mc) (fun _ hk => .inl hk))
      have HE9 := hid (HE8.out.trans (hE.mono HE8.out.size))
      clear hE HT8 HR8 HE8 Hev hw1
      have hb3 := HmB.out j
      have hb4 := HmB.out (j + 1)
      obtain ⟨b0, o0, T, t1, t2, U, u1, u2, hA0, f0, f1, f2, f3, hev⟩ := evS_at (HR9).out j hjx
      cases hA0
      have Hev := hid hev
      clear hev
      rw [Hge.out] at f0 f1 Hev
      clear f1 f2 f3
      cases hh : hasT e.tags tag
      · have hw2 : sumW dM (keyF tag st) (fl.take (j + 1)) = sumW dM (keyF tag st) (fl.take j) := by rw [Hm.out, hh]; simp
        go_wp2_with fail
        go_roundw
        case rel => exact ⟨j + 1, by omega, by go_num, rfl, by rw [hw2], HT9, HR9, HE9⟩
        case measure => simp [intOf]; omega
      · have hstl := str_toList
        cases hs : (e.st == st)
        rotate_left
        · have hw2 : sumW dM (keyF tag st) (fl.take (j + 1)) = sumW dM (keyF tag st) (fl.take j) + 1 := by rw [Hm.out, hh, hs]; simp
          have hw3 : IntKind.i64.wrap (sumW dM (keyF tag st) (fl.take j) + 1) = sumW dM (keyF tag st) (fl.take (j + 1)) := by rw [hw2, IntKind.wrap_i64]; omega
          clear hw2
          go_wp2_with fail
          go_roundw
          case rel => exact ⟨j + 1, by omega, by go_num, rfl, rfl, HT9, HR9, HE9⟩
          case measure => simp [intOf]; omega
        · have hw2 : sumW dM (keyF tag st) (fl.take (j + 1)) = sumW dM (keyF tag st) (fl.take j) := by rw [Hm.out, hs]; simp
          go_wp2_with fail
          go_roundw
          case rel => exact ⟨j + 1, by omega, by go_num, rfl, by rw [hw2], HT9, HR9, HE9⟩
          case measure => simp [intOf]; omega
    · obtain rfl : j = nF := by omega
      have hlt' : ¬ ((j : Int) < (j : Int)) := by omega
      have hall : fl.take j = fl := List.take_of_length_le (by have := HnF.out; omega)
      have HlC := hid (Hlen.out dC j); have HlS := hid (Hlen.out exD j); have HlM := hid (Hlen.out dM j)
      have e1 := hid (show atI (foldE dC [] fl) [] = (j : Int) by rw [Hat.out dC (by decide), sumW_count, HnF.out])
      have e2 := hid (Hat.out exD (by decide) [])
      have e3 := hid (Hat.out dM (by decide) (keyF tag st))
      rw [hall] at HT ⊢
      rw [hall] at HlC HlS HlM
      clear hall
      generalize foldE dC [] fl = DC at *
      generalize foldE exD [] fl = DS at *
      generalize foldE dM [] fl = DM at *
      generalize sumW exD [] fl = su at *
      generalize sumW dM (keyF tag st) fl = mu at *
      clear HR hfl
      have hlD := HlC.out
      go_wp2_with fail
      refine (entries_at (show StIs wr _ _ _ _ _ DC from HT.out.A) (by omega)).mono ?_
      rintro e w4 ⟨v, rfl, hO, hE⟩
      obtain ⟨Aa, ca, rfl, hRa⟩ := ownK_out (S := fun _ => False) hO (fun k hk => hk.elim) (fun k hk => hk.elim)
      have HRa := hid hRa
      have HEn := hid hE
      clear hO hE hRa hlD
      generalize hln : (DC).length = ln at HRa ⊢
      clear hln
      go_wp2_with fail
      have hnm := number_at HRa.out []
      rw [e1.out] at hnm
      refine hnm.mono ?_
      rintro e w5 ⟨rfl, rfl⟩
      clear hnm
      have HT4 := hid (HT.out.ext HEn.out)
      have HE4 := hid (HE.out.trans (HEn.out.mono HE.out.size))
      clear HT HE HEn HRa
      have hlD := HlS.out
      go_wp2_with fail
      refine (entries_at (show StIs w5 _ _ _ _ _ DS from HT4.out.B) (by omega)).mono ?_
      rintro e w6 ⟨v, rfl, hO, hE⟩
      obtain ⟨Aa, ca, rfl, hRa⟩ := ownK_out (S := fun _ => False) hO (fun k hk => hk.elim) (fun k hk => hk.elim)
      have HRa := hid hRa
      have HEn := hid hE
      clear hO hE hRa hlD
      generalize hln : (DS).length = ln at HRa ⊢
      clear hln
      go_wp2_with fail
      have hnm := number_at HRa.out []
      rw [e2.out] at hnm
      refine hnm.mono ?_
      rintro e w7 ⟨rfl, rfl⟩
      clear hnm
      have HT6 := hid (HT4.out.ext HEn.out)
      have HE6 := hid (HE4.out.trans (HEn.out.mono HE4.out.size))
      clear HT4 HE4 HEn HRa
      have h32 : str [32] = { data := #[32] } := rfl
      have ad1 := fun w => run_string_add_sum (P := Try.prog) w (str tag) (str [32]) (by rw [str_size, str_size]; simp; omega)
      have ad2 := fun w => run_string_add_sum (P := Try.prog) w (str tag ++ str [32]) (str st) (by rw [← str_append, str_size, str_size]; simp; omega)
      have hke : str tag ++ str [32] ++ str st = str (keyF tag st) := by rw [← str_append, ← str_append]; rfl
      rw [hke] at ad2
      rw [h32] at ad1 ad2
      generalize keyF tag st = ky at *
      clear hke h32
      have hlD := HlM.out
      go_wp2_with fail
      refine (entries_at (show StIs w7 _ _ _ _ _ DM from HT6.out.C) (by omega)).mono ?_
      rintro e w8 ⟨v, rfl, hO, hE⟩
      obtain ⟨Aa, ca, rfl, hRa⟩ := ownK_out (S := fun _ => False) hO (fun k hk => hk.elim) (fun k hk => hk.elim)
      have HRa := hid hRa
      have HEn := hid hE
      clear hO hE hRa hlD
      generalize hln : (DM).length = ln at HRa ⊢
      clear hln
      go_wp2_with fail
      have hnm := number_at HRa.out ky
      rw [e3.out] at hnm
      refine hnm.mono ?_
      rintro e w9 ⟨rfl, rfl⟩
      clear hnm
      have HE8 := hid (HE6.out.trans (HEn.out.mono HE6.out.size))
      clear HT6 HE6 HEn HRa
      go_wp2
      go_ret
      exact ⟨rfl, HE8.out⟩
end Go.Proofs.Ytpmmapcjohmniaa
