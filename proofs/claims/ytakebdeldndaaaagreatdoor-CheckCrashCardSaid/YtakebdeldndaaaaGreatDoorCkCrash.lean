/- The law CheckCrash. -/
import Derived.Test.YtakebdeldndaaaaGreatDoorCkCrMath
import Derived.Test.YtakebdeldndaaaaGreatDoorMask
namespace Go.Proofs.YtakebdeldndaaaaGreatDoor
open Go Go.RowKit
set_option linter.unusedSimpArgs false
set_option linter.unusedVariables false

theorem ckB_big' {ds : List DefV} {last : Int} {V : List (DefV × Ents)} {B : Int} {n : Nat} (hd : defsE ds = 0) (hl : 0 ≤ last ∧ last ≤ 1048576) (hf : FarV B 180 n V) : (setB V).length ≤ 10000000 := by
  have h2 := hf.size (by decide)
  omega
set_option maxRecDepth 100000 in
set_option maxHeartbeats 8000000 in
theorem checkCrash_in (A : Option Addr) (n c : Nat) (ds : List DefV) (la : Int) (A1 : Option Addr) (n1 c1 : Nat) (l1 : List EvV) (lb : Int) (A2 : Option Addr) (n2 c2 : Nat) (l2 : List EvV) (y0 y1 : Int) (w : World) (hd : SlR RDef w (· < w.heap.size) A n c ds) (hl1 : SlR REv w (· < w.heap.size) A1 n1 c1 l1) (hl2 : SlR REv w (· < w.heap.size) A2 n2 c2 l2) (hy0 : I64 y0) (hy1 : I64 y1) :
    Calls Tryz.prog 5 #[.slice A n c, .agg #[.int .i64 la, .slice A1 n1 c1, .int .i64 lb, .slice A2 n2 c2], .agg #[.int .i64 y0, .int .i64 y1]] w fun e w' => e = .returned (.bool true) ∧ Below w.heap.size w w' := by
  have Hd := hid hd; have Hl1 := hid hl1; have Hl2 := hid hl2; have Hy1 := hid hy1
  obtain ⟨z, hz, hzb⟩ := mask_bits y0 7 (by decide)
  have hzb : bits .and .i64 y0 7 = (z : Int) := hzb
  have Hzb := hid hzb
  have hEa := ext_alloc w (.cells #[.int .i64 la, .slice A1 n1 c1, .int .i64 lb, .slice A2 n2 c2] 59)
  have hEb := ext_alloc (w.alloc (.cells #[.int .i64 la, .slice A1 n1 c1, .int .i64 lb, .slice A2 n2 c2] 59)) (.cells #[.int .i64 y0, .int .i64 y1] 25)
  have HE0 := hid (Ext.trans' hEa hEb)
  have HBx := hid (show ∀ W, Ext ((w.alloc (.cells #[.int .i64 la, .slice A1 n1 c1, .int .i64 lb, .slice A2 n2 c2] 59)).alloc (.cells #[.int .i64 y0, .int .i64 y1] 25)) W → (W.cell? ⟨w.heap.size, 1, none⟩ = some (.slice A1 n1 c1) ∧ W.cell? ⟨w.heap.size, 3, none⟩ = some (.slice A2 n2 c2)) ∧ (W.cell? ⟨w.heap.size + 1, 0, none⟩ = some (.int .i64 y0) ∧ W.cell? ⟨w.heap.size + 1, 1, none⟩ = some (.int .i64 y1)) from fun W hE => by
    have h1 := (hE.block w.heap.size (by simp <;> omega)).trans ((hEb.block w.heap.size (by simp)).trans (heap_alloc_last w (.cells #[.int .i64 la, .slice A1 n1 c1, .int .i64 lb, .slice A2 n2 c2] 59)))
    have h2 := heap_alloc_last (w.alloc (.cells #[.int .i64 la, .slice A1 n1 c1, .int .i64 lb, .slice A2 n2 c2] 59)) (.cells #[.int .i64 y0, .int .i64 y1] 25)
    rw [show (w.alloc (.cells #[.int .i64 la, .slice A1 n1 c1, .int .i64 lb, .slice A2 n2 c2] 59)).heap.size = w.heap.size + 1 by simp] at h2
    have h2 := (hE.block (w.heap.size + 1) (by simp <;> omega)).trans h2
    refine ⟨⟨?_, ?_⟩, ?_, ?_⟩
    · rw [cell_of_row _ _ _ _ _ _ h1]; rfl
    · rw [cell_of_row _ _ _ _ _ _ h1]; rfl
    · rw [cell_of_row _ _ _ _ _ _ h2]; rfl
    · rw [cell_of_row _ _ _ _ _ _ h2]; rfl)
  clear hd hl1 hl2 hEa hEb hy0 hy1 hzb
  go_enter Tryz.func5, Tryz.ntmps5
  go_wp2_with fail
  generalize (w.alloc (.cells #[.int .i64 la, .slice A1 n1 c1, .int .i64 lb, .slice A2 n2 c2] 59)).alloc (.cells #[.int .i64 y0, .int .i64 y1] 25) = w0 at *
  obtain ⟨by_, hby⟩ : ∃ b, b = w.heap.size + 1 := ⟨_, rfl⟩
  obtain ⟨bx, hbx⟩ : ∃ bx, bx = w.heap.size := ⟨_, rfl⟩
  rw [← hby, ← hbx] at HBx ⊢
  have Hbl := hid (show bx < w.heap.size + 2 ∧ by_ < w.heap.size + 2 by omega)
  clear hbx hby
  refine (shown17_at w0).mono ?_
  rintro e w1 ⟨rfl, hE1⟩
  have HX1 := hid hE1
  have HE1 := hid (HE0.out.trans' hE1)
  clear hE1
  go_wp2_with fail
  refine (few_at (Hd.out.grow HE1.out)).mono ?_
  rintro e wx ⟨⟨n5, rfl, hn5, hd5⟩, hw⟩
  obtain rfl : w1 = wx := hw.symm
  have HD5 := hid hd5
  clear hw hd5
  generalize ds.take 5 = d5 at *
  obtain ⟨⟨b1, b2⟩, -⟩ := HBx.out w1 HX1.out
  have hcc := folded_at HD5.out (Hl1.out.grow HE1.out)
  go_wp2_with fail
  refine hcc.mono ?_
  clear hcc b1 b2
  rintro e w2 ⟨hE2, hans⟩
  have HX2 := hid (HX1.out.trans' hE2)
  have HE2 := hid (HE1.out.trans' hE2)
  have HD52 := hid (HD5.out.grow hE2)
  clear hE2
  obtain ⟨⟨b1, b2⟩, -⟩ := HBx.out w2 HX2.out
  have hcc := folded_at HD52.out (Hl2.out.grow HE2.out)
  rcases hans with ⟨h0, rfl⟩ | ⟨h0, p1, z1, L1, S1, rfl, hO1, hF1⟩
  · go_wp2_with fail
    refine hcc.mono ?_
    clear hcc b1 b2
    rintro e w3 ⟨hE3, hans⟩
    have HE3 := hid (HE2.out.trans' hE3)
    rcases hans with ⟨h1, rfl⟩ | ⟨h1, -⟩
    rotate_left
    · exact absurd h1 h0
    clear h0 h1 hE3
    go_wp2
    go_ret
    exact ⟨rfl, HE3.out⟩
  have H0 := hid h0
  have HO1 := hid hO1
  have HF1 := hid hF1
  clear h0 hO1 hF1
  go_wp2_with fail
  refine hcc.mono ?_
  clear hcc b1 b2
  rintro e w3 ⟨hE3, hans⟩
  have HE3 := hid (HE2.out.trans' hE3)
  rcases hans with ⟨h1, -⟩ | ⟨-, p2, z2, L2, S2, rfl, hO2, hF2⟩
  · exact absurd H0.out h1
  have HX3 := hid (HX2.out.trans' hE3)
  have HO1 := hid (HO1.out.ext hE3)
  have HO2 := hid hO2
  have HF2 := hid hF2
  have HD53 := hid (HD52.out.grow hE3)
  have Hfst1 := hid HF1.out.fst
  have Hfst2 := hid HF2.out.fst
  have Hfar1 := hid (HF1.out.far (defsE_zero H0.out).1 (Nat.le_refl _))
  have Hfar2 := hid (HF2.out.far (defsE_zero H0.out).1 (Nat.le_refl _))
  have Hok1 := hid (FoldedV.loads HO1.out.A HF1.out (Nat.le_refl _))
  have Hok2 := hid (FoldedV.loads HO2.out.A HF2.out (Nat.le_refl _))
  have HP1 := hid (Hfar1.out.put (by decide))
  have HP2 := hid (Hfar2.out.put (by decide))
  have Hb1 := hid (ckB_file (last := 5) H0.out (by decide) HF1.out)
  have Hb2 := hid (ckB_file (last := 9) H0.out (by decide) HF2.out)
  have Hz1 := hid (ckB_big' (last := 5) H0.out (by decide) Hfar1.out)
  have Hz2 := hid (ckB_big' (last := 9) H0.out (by decide) Hfar2.out)
  have Hv1 := hid (show (viewP L1).length = d5.length from by rw [← Hfst1.out, List.length_map])
  have Hv2 := hid (show (viewP L2).length = d5.length from by rw [← Hfst2.out, List.length_map])
  clear hE3 hO2 hF2
  have hcc := ckPut_at HO1.out.A HD53.out (last := 5) (by unfold I64; omega) HP1.out Hz1.out
  go_wp2_with fail
  refine hcc.mono ?_
  clear hcc
  rintro e w5 ⟨hE5, hans⟩
  rcases hans with ⟨h, -⟩ | ⟨-, hbad, rfl⟩ | ⟨-, -, v1, rfl, hOb1⟩
  · exact absurd H0.out h
  · exfalso
    have := Hv1.out
    rcases hbad with h | h | h
    · omega
    · omega
    · exact h this
  have HOb1 := hid hOb1
  have HE5 := hid hE5
  have HD55 := hid (HD53.out.grow hE5)
  have HO2b := hid (HO2.out.ext hE5)
  clear hOb1 hE5
  have hcc := ckPut_at HO2b.out.A HD55.out (last := 9) (by unfold I64; omega) HP2.out Hz2.out
  go_wp2_with fail
  refine hcc.mono ?_
  clear hcc
  rintro e w6 ⟨hE6, hans⟩
  rcases hans with ⟨h, -⟩ | ⟨-, hbad, rfl⟩ | ⟨-, -, v2, rfl, hOb2⟩
  · exact absurd H0.out h
  · exfalso
    have := Hv2.out
    rcases hbad with h | h | h
    · omega
    · omega
    · exact h this
  have HOb1 := hid (HOb1.out.below hE6)
  have HOb2 := hid hOb2
  have HE6 := hid (HE5.out.trans' hE6)
  clear hOb2 hE6
  go_wp2_with fail
  refine (newDisk_at 1048576).mono ?_
  rintro e w4 ⟨d, m, rfl, hd1, hm1, hDk, hE4⟩
  have HR := hid (Run.made (w0 := w6) (w1 := w6) (Below.refl _ _) hd1 hm1 hDk hE4)
  rw [show max (1048576 : Int) 0 = 1048576 by decide] at HR
  obtain ⟨B1, k1, rfl, hk1, hRv1⟩ := HOb1.out.read
  obtain ⟨B2, k2, rfl, hk2, hRv2⟩ := HOb2.out.read
  have HRb1 := hid (HR.out.arg hRv1)
  have HRb2 := hid (HR.out.arg hRv2)
  clear hd1 hm1 hDk hE4 hRv1 hRv2 HOb1 HOb2
  have HCr := hid (fun keep => crash_load (q := 1048576) (keep := keep) (l := (z : Int)) (most := 100) (z1 := 5) (z2 := 9) H0.out Hfst1.out HP1.out Hok1.out Hfst2.out HP2.out Hok2.out (by decide) (by decide) (by decide) (by decide)
    (by have := Hb2.out; omega) (by have := Hb1.out; have := Hb2.out; omega) (by omega))
  have Hs1 := hid (fun W (hE : Ext w6 W) => states_at ((HO1.out.ext (Ext.trans' HE6.out hE)).A) HP1.out)
  have Hs2 := hid (fun W (hE : Ext w6 W) => states_at ((HO2.out.ext (Ext.trans' HE6.out hE)).A) HP2.out)
  have HPp1 := hid (fun (Lp : List Pc) (h : viewP Lp = viewP L1) => (by rw [h]; exact HP1.out : PutFit (viewP Lp)))
  have HPp2 := hid (fun (Lp : List Pc) (h : viewP Lp = viewP L2) => (by rw [h]; exact HP2.out : PutFit (viewP Lp)))
  generalize Crc.seal_ (ckB d5 5 (viewP L1)) = x1 at *
  generalize Crc.seal_ (ckB d5 9 (viewP L2)) = x2 at *
  generalize hx1 : x1.length = m1 at *
  have Hx1 := hid hx1
  clear hx1
  generalize hx2 : x2.length = m2 at *
  have Hx2 := hid hx2
  clear hx2
  have hm1 : m1 ≤ 65500 := Hb1.out
  have hm2 : m2 ≤ 65500 := Hb2.out
  have hcc := save_at HR.out.is Hx1.out.symm (by omega) (c := k1) HRb1.out
  rw [save_empty (q := 1048576) (b := x1) (by rw [Hx1.out]; omega) (by rw [Hx1.out]; omega)] at hcc
  go_wp2_with fail
  refine hcc.mono ?_
  clear hcc
  rintro e w7 ⟨rfl, hD7, hK7⟩
  have HR7 := hid (HR.out.next hD7 hK7)
  have HRb2 := hid (RS.kept HRb2.out hK7 (.inl rfl) (.inr rfl))
  clear hD7 hK7 HR HRb1
  rw [Hx1.out] at HR7
  have hE7 : Ext w0 w7 := Ext.trans' HX3.out (Ext.trans' HE6.out HR7.out.below)
  obtain ⟨-, b3, b4⟩ := HBx.out w7 hE7
  have hzb := Hzb.out
  clear hE7
  go_wp2_with fail
  clear b3 b4 hzb
  refine (HR7.out.fuse (z : Int) (by omega)).mono ?_
  rintro e w8 ⟨rfl, hR, hK⟩
  rw [show max (z : Int) 0 = (z : Int) by omega] at hR
  have HR8 := hid hR
  have HRb2 := hid (RS.kept HRb2.out hK (.inl rfl) (.inr rfl))
  clear hR hK HR7
  have hcc := save_at HR8.out.is Hx2.out.symm (by omega) (c := k2) HRb2.out
  obtain ⟨gx, gl, gF, hsv, hout⟩ := HCr.out y1
  rw [hsv] at hcc
  have Hout := hid hout
  clear hsv hout HCr
  go_wp2_with fail
  refine hcc.mono ?_
  clear hcc
  rintro e w9 ⟨rfl, hD9, hK9⟩
  have HR9 := hid (HR8.out.next hD9 hK9)
  clear hD9 hK9 HR8 HRb2
  have hE9 : Ext w0 w9 := Ext.trans' HX3.out (Ext.trans' HE6.out HR9.out.below)
  obtain ⟨-, b3, b4⟩ := HBx.out w9 hE9
  clear hE9
  go_wp2_with fail
  clear b3 b4
  refine (HR9.out.crash y1 Hy1.out.2).mono ?_
  rintro e w10 ⟨rfl, hR, -⟩
  have HR10 := hid hR
  clear hR HR9
  have hcc := ckLoad_at HR10.out.is ((HD53.out.grow HE6.out).grow HR10.out.below) 100
  go_wp2_with fail
  refine hcc.mono ?_
  clear hcc
  rintro e w11 ⟨hE11, hans⟩
  rcases hans with ⟨h, -⟩ | ⟨-, n11, p11, L11, S11, rfl, hv11, hO11, -⟩
  · exact absurd H0.out h
  have HO11 := hid hO11
  have HEs := hid (Ext.trans' HR10.out.below hE11)
  have HEw := hid (Ext.trans' HE3.out HE6.out)
  clear hE11 hO11 HR10
  have hout := Hout.out
  rcases hout with ⟨rfl, hld⟩ | ⟨hg, hld⟩
  · rw [hld] at hv11
    simp only [Prod.mk.injEq] at hv11
    obtain ⟨rfl, hv⟩ := hv11
    have Hsp := hid (fun W (hE : Ext w11 W) => states_at ((HO11.out.ext hE).A) (HPp1.out L11 hv))
    rw [hv] at Hsp
    clear hv hld Hout
    generalize setB (viewP L1) = q1 at *
    have HEr := hid (Below.refl w11.heap.size w11)
    have hcc := Hsp.out w11 HEr.out
    go_wp2_with fail
    refine hcc.mono ?_
    clear hcc
    rintro e w12 ⟨rfl, hE⟩
    have HEs := hid (Ext.trans' HEs.out hE)
    clear hE HEr
    have hcc := Hs1.out w12 HEs.out
    go_wp2_with fail
    refine hcc.mono ?_
    clear hcc
    rintro e w13 ⟨rfl, hE⟩
    have HEv := hid (Ext.trans' HEw.out (Ext.trans' HEs.out hE))
    clear hE
    go_wp2
    go_ret
    exact ⟨rfl, HEv.out⟩
  · rw [hld] at hv11
    simp only [Prod.mk.injEq] at hv11
    obtain ⟨rfl, hv⟩ := hv11
    have Hsp := hid (fun W (hE : Ext w11 W) => states_at ((HO11.out.ext hE).A) (HPp2.out L11 hv))
    rw [hv] at Hsp
    clear hv hld Hout
    generalize setB (viewP L2) = q2 at *
    have HEr := hid (Below.refl w11.heap.size w11)
    have hcc := Hsp.out w11 HEr.out
    rcases hg with rfl | rfl
    all_goals
      go_wp2_with fail
      refine hcc.mono ?_
      clear hcc
      rintro e w12 ⟨rfl, hE⟩
      have HEs := hid (Ext.trans' HEs.out hE)
      clear hE HEr
      have hcc := Hs2.out w12 HEs.out
      go_wp2_with fail
      refine hcc.mono ?_
      clear hcc
      rintro e w13 ⟨rfl, hE⟩
      have HEv := hid (Ext.trans' HEw.out (Ext.trans' HEs.out hE))
      clear hE
      go_wp2
      go_ret
      exact ⟨rfl, HEv.out⟩
end Go.Proofs.YtakebdeldndaaaaGreatDoor

