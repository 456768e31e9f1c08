/- The law CheckLoads. -/
import Derived.Test.YtakebdeldndaaaaGreatDoorCkQ
namespace Go.Proofs.YtakebdeldndaaaaGreatDoor
open Go Go.RowKit
set_option linter.unusedSimpArgs false
set_option linter.unusedVariables false
def Box3 (bx : Nat) (A0 : Option Addr) (m0 c0 : Nat) (A1 : Option Addr) (m1 c1 : Nat) (A2 : Option Addr) (m2 c2 : Nat) (w : World) : Prop := w.heap[bx]? = some (.cells #[.slice A0 m0 c0, .slice A1 m1 c1, .slice A2 m2 c2] 45)
theorem Box3.cells {bx : Nat} {A0 A1 A2 : Option Addr} {m0 c0 m1 c1 m2 c2 : Nat} {w : World} (h : Box3 bx A0 m0 c0 A1 m1 c1 A2 m2 c2 w) : w.cell? ⟨bx, 0, none⟩ = some (.slice A0 m0 c0) ∧ w.cell? ⟨bx, 1, none⟩ = some (.slice A1 m1 c1) ∧ w.cell? ⟨bx, 2, none⟩ = some (.slice A2 m2 c2) ∧ (∀ o, w.frozen? ⟨bx, o, none⟩ = false) := by
 unfold Box3 at h
 refine ⟨?_, ?_, ?_, fun o => by simp [World.frozen?, h]⟩ <;> · rw [cell_of_row _ _ _ _ _ _ h]; rfl
theorem Box3.set0 {bx : Nat} {A0 A1 A2 : Option Addr} {m0 c0 m1 c1 m2 c2 : Nat} (n : Nat) {w : World} (h : Box3 bx A0 m0 c0 A1 m1 c1 A2 m2 c2 w) : Box3 bx A0 n c0 A1 m1 c1 A2 m2 c2 (w.setCell ⟨bx, 0, none⟩ (.slice A0 n c0)) := heap_setCell_row (o := 0) h _
theorem Box3.set1 {bx : Nat} {A0 A1 A2 : Option Addr} {m0 c0 m1 c1 m2 c2 : Nat} (n : Nat) {w : World} (h : Box3 bx A0 m0 c0 A1 m1 c1 A2 m2 c2 w) : Box3 bx A0 m0 c0 A1 n c1 A2 m2 c2 (w.setCell ⟨bx, 1, none⟩ (.slice A1 n c1)) := heap_setCell_row (o := 1) h _
theorem Box3.set2 {bx : Nat} {A0 A1 A2 : Option Addr} {m0 c0 m1 c1 m2 c2 : Nat} (n : Nat) {w : World} (h : Box3 bx A0 m0 c0 A1 m1 c1 A2 m2 c2 w) : Box3 bx A0 m0 c0 A1 m1 c1 A2 n c2 (w.setCell ⟨bx, 2, none⟩ (.slice A2 n c2)) := heap_setCell_row (o := 2) h _
theorem kept_setL {w : World} {b o : Nat} {v : Value} : Kept2 b b w (w.setCell ⟨b, o, none⟩ v) := ⟨rfl, rfl, rfl, by simp, fun j hj h1 _ => heap_setCell_other w ⟨b, o, none⟩ j _ (fun e => h1 e)⟩
def IntBox3 (bz : Nat) (x0 x1 x2 : Int) (w : World) : Prop := w.cell? ⟨bz, 0, none⟩ = some (.int .i64 x0) ∧ w.cell? ⟨bz, 1, none⟩ = some (.int .i64 x1) ∧ w.cell? ⟨bz, 2, none⟩ = some (.int .i64 x2)
theorem IntBox3.ext {bz : Nat} {x0 x1 x2 : Int} {w w' : World} (h : IntBox3 bz x0 x1 x2 w) (hE : Ext w w') : IntBox3 bz x0 x1 x2 w' := ⟨cell_below hE h.1, cell_below hE h.2.1, cell_below hE h.2.2⟩
theorem IntBox3.kept {bz : Nat} {x0 x1 x2 : Int} {w w' : World} (h : IntBox3 bz x0 x1 x2 w) {a b : Nat} (hk : Kept2 a b w w') (h1 : bz ≠ a) (h2 : bz ≠ b) : IntBox3 bz x0 x1 x2 w' := ⟨hk.cell' h.1 h1 h2, hk.cell' h.2.1 h1 h2, hk.cell' h.2.2 h1 h2⟩
def LdB (bx : Nat) (A2 : Option Addr) (m2 c2 : Nat) (w : World) : Prop := w.cell? ⟨bx, 2, none⟩ = some (.slice A2 m2 c2)
theorem LdB.cells {bx : Nat} {A2 : Option Addr} {m2 c2 : Nat} {w : World} (h : LdB bx A2 m2 c2 w) : w.cell? ⟨bx, 2, none⟩ = some (.slice A2 m2 c2) ∧ True ∧ True ∧ True ∧ True := ⟨h, trivial, trivial, trivial, trivial⟩
def CutL (w wb : World) (d m y : Nat) (wx : World) : Prop := ∃ S g F, Pr w wb S d m y g 4000 (-1) F (-1) F wx ∧ ∀ nm f, atF F nm = some f → f.b.length ≤ 2000
set_option maxRecDepth 100000 in
set_option maxHeartbeats 16000000 in
theorem checkLoads_in (A : Option Addr) (n c : Nat) (ds : List DefV) (A0 : Option Addr) (n0 c0 : Nat) (B0 : List UInt8) (A1 : Option Addr) (n1 c1 : Nat) (B1 : List UInt8) (A2 : Option Addr) (n2 c2 : Nat) (B2 : List UInt8) (x0 x1 x2 : Int) (w : World) (hd : SlR RDef w (· < w.heap.size) A n c ds) (h0 : InB w A0 n0 c0 B0) (h1 : InB w A1 n1 c1 B1) (h2 : InB w A2 n2 c2 B2) (hx0 : I64 x0) (hx1 : I64 x1) (hx2 : I64 x2) :
  Calls Tryz.prog 4 #[.slice A n c, .agg #[.slice A0 n0 c0, .slice A1 n1 c1, .slice A2 n2 c2], .agg #[.int .i64 x0, .int .i64 x1, .int .i64 x2]] w fun e w' => e = .returned (.bool true) ∧ Below w.heap.size w w' := by
 have Hd := hid hd; have Hx2 := hid hx2
 have HB0 := hid h0; have HB1 := hid h1; have HB2_ := hid h2
 have hc0 := h0.cap; have hc1 := h1.cap; have hc2 := h2.cap; have hcm0 := h0.max; have hcm1 := h1.max; have hcm2 := h2.max
 obtain ⟨z, hz, hzb⟩ := mask_bits x1 7 (by decide)
 have hzb : bits .and .i64 x1 7 = (z : Int) := hzb
 have Hzb := hid hzb
 have hEa := ext_alloc w (.cells #[.slice A0 n0 c0, .slice A1 n1 c1, .slice A2 n2 c2] 45)
 have hEb := ext_alloc (w.alloc (.cells #[.slice A0 n0 c0, .slice A1 n1 c1, .slice A2 n2 c2] 45)) (.cells #[.int .i64 x0, .int .i64 x1, .int .i64 x2] 46)
 have HE0 := hid (Ext.trans' hEa hEb)
 have HBx := hid (show Box3 w.heap.size A0 n0 c0 A1 n1 c1 A2 n2 c2 ((w.alloc (.cells #[.slice A0 n0 c0, .slice A1 n1 c1, .slice A2 n2 c2] 45)).alloc (.cells #[.int .i64 x0, .int .i64 x1, .int .i64 x2] 46)) from (hEb.block w.heap.size (by simp)).trans (heap_alloc_last w (.cells #[.slice A0 n0 c0, .slice A1 n1 c1, .slice A2 n2 c2] 45)))
 have HZ := hid (show IntBox3 (w.heap.size + 1) x0 x1 x2 ((w.alloc (.cells #[.slice A0 n0 c0, .slice A1 n1 c1, .slice A2 n2 c2] 45)).alloc (.cells #[.int .i64 x0, .int .i64 x1, .int .i64 x2] 46)) from by
  have h2 := heap_alloc_last (w.alloc (.cells #[.slice A0 n0 c0, .slice A1 n1 c1, .slice A2 n2 c2] 45)) (.cells #[.int .i64 x0, .int .i64 x1, .int .i64 x2] 46)
  rw [show (w.alloc (.cells #[.slice A0 n0 c0, .slice A1 n1 c1, .slice A2 n2 c2] 45)).heap.size = w.heap.size + 1 by simp] at h2
  refine ⟨?_, ?_, ?_⟩ <;> · rw [cell_of_row _ _ _ _ _ _ h2]; rfl)
 have Hsz0 := hid (show ((w.alloc (.cells #[.slice A0 n0 c0, .slice A1 n1 c1, .slice A2 n2 c2] 45)).alloc (.cells #[.int .i64 x0, .int .i64 x1, .int .i64 x2] 46)).heap.size = w.heap.size + 2 by simp)
 clear hd h0 h1 h2 hEa hEb hzb hx1 hx0 hx2
 go_enter Tryz.func4, Tryz.ntmps4
 go_wp2_with fail
 generalize (w.alloc (.cells #[.slice A0 n0 c0, .slice A1 n1 c1, .slice A2 n2 c2] 45)).alloc (.cells #[.int .i64 x0, .int .i64 x1, .int .i64 x2] 46) = w0 at *
 obtain ⟨bz, hbz⟩ : ∃ b, b = w.heap.size + 1 := ⟨_, rfl⟩
 obtain ⟨bx, hbx⟩ : ∃ b, b = w.heap.size := ⟨_, rfl⟩
 rw [← hbz] at HZ ⊢
 rw [← hbx] at HBx ⊢
 have Hb := hid (show w.heap.size ≤ bx ∧ bx < bz ∧ bz < w0.heap.size by have := Hsz0.out; omega)
 clear hbz hbx
 refine (shown17_at w0).mono ?_
 rintro e w1 ⟨rfl, hE1⟩
 have HE1 := hid (HE0.out.trans' hE1)
 have HBx := hid (show Box3 bx A0 n0 c0 A1 n1 c1 A2 n2 c2 w1 from (hE1.block bx (by have := Hb.out; omega)).trans HBx.out)
 have HZ := hid (HZ.out.ext hE1)
 have HS1 := hid (show bz < w1.heap.size by have := Hb.out; have := hE1.size; omega)
 clear hE1
 go_wp2_with fail
 refine (few_at (K := (· < w.heap.size)) (Hd.out.ext fun k hk => HE1.out.block k hk)).mono ?_
 rintro e wx ⟨⟨n5, rfl, hn5, hd5⟩, hw⟩
 obtain rfl : w1 = wx := hw.symm
 have HD := hid (show SlR RDef w (· < w.heap.size) A n5 c (ds.take 5) from hd5.ext fun k hk => (HE1.out.block k hk).symm)
 clear hw hd5 Hd
 generalize ds.take 5 = d5 at *
 go_wp2_with fail
 go_loopw [8] (fun i wr => ∃ (k m0 m1 m2 : Nat), k ≤ 3 ∧ i = .int .i64 (k : Int) ∧ (m0 ≤ c0 ∧ m1 ≤ c1 ∧ m2 ≤ c2) ∧ Hid (Box3 bx A0 m0 c0 A1 m1 c1 A2 m2 c2 wr) ∧ Hid (Below w.heap.size w wr) ∧ Hid (IntBox3 bz x0 x1 x2 wr) ∧ Hid (bz < wr.heap.size) ∧ Hid ((1 ≤ k → m0 = min n0 800) ∧ (k ≤ 0 → m0 = n0) ∧ (2 ≤ k → m1 = min n1 800) ∧ (k ≤ 1 → m1 = n1) ∧ (3 ≤ k → m2 = min n2 800) ∧ (k ≤ 2 → m2 = n2))) (fun i _ => 3 - (intOf i).toNat)
 case atStart => exact ⟨0, n0, n1, n2, by omega, rfl, ⟨by omega, by omega, by omega⟩, HBx, HE1, HZ, HS1, hid (by omega)⟩
 case round =>
  clear HBx HZ HS1 HE1
  obtain ⟨k, m0, m1, m2, hk, rfl, hmc, HBx, HE, HZ, HS, HM⟩ := hrel
  obtain ⟨b0, b1, b2, bf⟩ := HBx.out.cells
  by_cases hk0 : k = 0
  ·subst hk0
   by_cases h8 : 800 < m0
   ·
    -- the K-th is cut
    have hlt : (800 : Int) < ((m0 : Nat) : Int) := by omega
    have hcap : (800 : Int) ≤ ((c0 : Nat) : Int) := by omega
    have HB2 := hid (HBx.out.set0 800)
    have hks := kept_setL (w := wr) (b := bx) (o := 0) (v := .slice A0 800 c0)
    have HE2 := hid (show Below w.heap.size w (wr.setCell ⟨bx, 0, none⟩ (.slice A0 800 c0)) from HE.out.trans (hks.below Hb.out.1 Hb.out.1 HE.out.size))
    have HZ2 := hid (HZ.out.kept hks (fun e => by have := Hb.out; omega) (fun e => by have := Hb.out; omega))
    have HS2 := hid (show bz < (wr.setCell ⟨bx, 0, none⟩ (.slice A0 800 c0)).heap.size by have := HS.out; simpa using this)
    have HM2 := hid (show (1 ≤ 0 + 1 → 800 = min n0 800) ∧ (0 + 1 ≤ 0 → 800 = n0) ∧ (2 ≤ 0 + 1 → m1 = min n1 800) ∧ (0 + 1 ≤ 1 → m1 = n1) ∧ (3 ≤ 0 + 1 → m2 = min n2 800) ∧ (0 + 1 ≤ 2 → m2 = n2) from by have := HM.out; omega)
    clear hks
    go_wp2_with fail
    go_roundw
    case rel => exact ⟨0 + 1, 800, m1, m2, by omega, by go_num, by omega, HB2, HE2, HZ2, HS2, HM2⟩
    case measure => simp [intOf]
   ·
    have hlt : ¬ ((800 : Int) < ((m0 : Nat) : Int)) := by omega
    have HM2 := hid (show (1 ≤ 0 + 1 → m0 = min n0 800) ∧ (0 + 1 ≤ 0 → m0 = n0) ∧ (2 ≤ 0 + 1 → m1 = min n1 800) ∧ (0 + 1 ≤ 1 → m1 = n1) ∧ (3 ≤ 0 + 1 → m2 = min n2 800) ∧ (0 + 1 ≤ 2 → m2 = n2) from by have := HM.out; omega)
    go_wp2_with fail
    go_roundw
    case rel => exact ⟨0 + 1, m0, m1, m2, by omega, by go_num, hmc, HBx, HE, HZ, HS, HM2⟩
    case measure => simp [intOf]
  by_cases hk1 : k = 1
  ·subst hk1
   by_cases h8 : 800 < m1
   ·
    -- the K-th is cut
    have hlt : (800 : Int) < ((m1 : Nat) : Int) := by omega
    have hcap : (800 : Int) ≤ ((c1 : Nat) : Int) := by omega
    have HB2 := hid (HBx.out.set1 800)
    have hks := kept_setL (w := wr) (b := bx) (o := 1) (v := .slice A1 800 c1)
    have HE2 := hid (show Below w.heap.size w (wr.setCell ⟨bx, 1, none⟩ (.slice A1 800 c1)) from HE.out.trans (hks.below Hb.out.1 Hb.out.1 HE.out.size))
    have HZ2 := hid (HZ.out.kept hks (fun e => by have := Hb.out; omega) (fun e => by have := Hb.out; omega))
    have HS2 := hid (show bz < (wr.setCell ⟨bx, 1, none⟩ (.slice A1 800 c1)).heap.size by have := HS.out; simpa using this)
    have HM2 := hid (show (1 ≤ 1 + 1 → m0 = min n0 800) ∧ (1 + 1 ≤ 0 → m0 = n0) ∧ (2 ≤ 1 + 1 → 800 = min n1 800) ∧ (1 + 1 ≤ 1 → 800 = n1) ∧ (3 ≤ 1 + 1 → m2 = min n2 800) ∧ (1 + 1 ≤ 2 → m2 = n2) from by have := HM.out; omega)
    clear hks
    go_wp2_with fail
    go_roundw
    case rel => exact ⟨1 + 1, m0, 800, m2, by omega, by go_num, by omega, HB2, HE2, HZ2, HS2, HM2⟩
    case measure => simp [intOf]
   ·
    have hlt : ¬ ((800 : Int) < ((m1 : Nat) : Int)) := by omega
    have HM2 := hid (show (1 ≤ 1 + 1 → m0 = min n0 800) ∧ (1 + 1 ≤ 0 → m0 = n0) ∧ (2 ≤ 1 + 1 → m1 = min n1 800) ∧ (1 + 1 ≤ 1 → m1 = n1) ∧ (3 ≤ 1 + 1 → m2 = min n2 800) ∧ (1 + 1 ≤ 2 → m2 = n2) from by have := HM.out; omega)
    go_wp2_with fail
    go_roundw
    case rel => exact ⟨1 + 1, m0, m1, m2, by omega, by go_num, hmc, HBx, HE, HZ, HS, HM2⟩
    case measure => simp [intOf]
  by_cases hk2 : k = 2
  ·subst hk2
   by_cases h8 : 800 < m2
   ·
    -- the K-th is cut
    have hlt : (800 : Int) < ((m2 : Nat) : Int) := by omega
    have hcap : (800 : Int) ≤ ((c2 : Nat) : Int) := by omega
    have HB2 := hid (HBx.out.set2 800)
    have hks := kept_setL (w := wr) (b := bx) (o := 2) (v := .slice A2 800 c2)
    have HE2 := hid (show Below w.heap.size w (wr.setCell ⟨bx, 2, none⟩ (.slice A2 800 c2)) from HE.out.trans (hks.below Hb.out.1 Hb.out.1 HE.out.size))
    have HZ2 := hid (HZ.out.kept hks (fun e => by have := Hb.out; omega) (fun e => by have := Hb.out; omega))
    have HS2 := hid (show bz < (wr.setCell ⟨bx, 2, none⟩ (.slice A2 800 c2)).heap.size by have := HS.out; simpa using this)
    have HM2 := hid (show (1 ≤ 2 + 1 → m0 = min n0 800) ∧ (2 + 1 ≤ 0 → m0 = n0) ∧ (2 ≤ 2 + 1 → m1 = min n1 800) ∧ (2 + 1 ≤ 1 → m1 = n1) ∧ (3 ≤ 2 + 1 → 800 = min n2 800) ∧ (2 + 1 ≤ 2 → 800 = n2) from by have := HM.out; omega)
    clear hks
    go_wp2_with fail
    go_roundw
    case rel => exact ⟨2 + 1, m0, m1, 800, by omega, by go_num, by omega, HB2, HE2, HZ2, HS2, HM2⟩
    case measure => simp [intOf]
   ·
    have hlt : ¬ ((800 : Int) < ((m2 : Nat) : Int)) := by omega
    have HM2 := hid (show (1 ≤ 2 + 1 → m0 = min n0 800) ∧ (2 + 1 ≤ 0 → m0 = n0) ∧ (2 ≤ 2 + 1 → m1 = min n1 800) ∧ (2 + 1 ≤ 1 → m1 = n1) ∧ (3 ≤ 2 + 1 → m2 = min n2 800) ∧ (2 + 1 ≤ 2 → m2 = n2) from by have := HM.out; omega)
    go_wp2_with fail
    go_roundw
    case rel => exact ⟨2 + 1, m0, m1, m2, by omega, by go_num, hmc, HBx, HE, HZ, HS, HM2⟩
    case measure => simp [intOf]
  obtain rfl : k = 3 := by omega
  clear hk0 hk1 hk2 hk
  have hm0 : m0 = min n0 800 := HM.out.1 (by omega)
  have hm1 : m1 = min n1 800 := HM.out.2.2.1 (by omega)
  have hm2 : m2 = min n2 800 := HM.out.2.2.2.2.1 (by omega)
  have Hr0 := hid (HB0.out.read.take m0); have Hr1 := hid (HB1.out.read.take m1); have Hr2 := hid (HB2_.out.read.take m2)
  have Hl0 := hid (show m0 = (B0.take m0).length by rw [List.length_take]; have := HB0.out.len; omega)
  have Hl1 := hid (show m1 = (B1.take m1).length by rw [List.length_take]; have := HB1.out.len; omega)
  have Hl2 := hid (show m2 = (B2.take m2).length by rw [List.length_take]; have := HB2_.out.len; omega)
  have h80 : m0 ≤ 800 := by omega
  have h81 : m1 ≤ 800 := by omega
  have h82 : m2 ≤ 800 := by omega
  clear hm0 hm1 hm2 HM HB0 HB1 HB2_ bf
  generalize B0.take m0 = D0 at *
  generalize B1.take m1 = D1 at *
  generalize B2.take m2 = D2 at *
  go_wp2_with fail
  clear b0 b1 b2
  refine (newDisk_at 4000).mono ?_
  rintro e w2 ⟨d, m, rfl, hd1, hm1, hDk, hE2⟩
  rw [show max (4000 : Int) 0 = 4000 by decide] at hDk
  have hdl := hDk.lt
  have hs2 := hE2.size
  have hbz := HS.out
  go_wp2_with fail
  refine (refDisk_at 4000 w2 (fun k => k = d ∨ k = m ∨ k = bx) (fun k hk h => by have := Hb.out; omega)).mono ?_
  rintro e wb ⟨rfl, hR3, hE3⟩
  rw [show max (4000 : Int) 0 = 4000 by decide] at hR3
  have HP := hid (pr_new (bx := bx) HE.out (by have := Hb.out; omega) hd1 hm1 hDk hE2 hR3 hE3)
  have HB3 := hid (show Box3 bx A0 m0 c0 A1 m1 c1 A2 m2 c2 wb from (hE3.block bx (by have := Hb.out; omega)).trans ((hE2.block bx (by have := Hb.out; omega)).trans HBx.out))
  have HZ3 := hid ((HZ.out.ext hE2).ext hE3)
  have Hne := hid (show (bx ≠ d ∧ bx ≠ m ∧ bx ≠ w2.heap.size) ∧ (bz ≠ d ∧ bz ≠ m ∧ bz ≠ w2.heap.size) ∧ bx < wb.heap.size ∧ bz < wb.heap.size by have := Hb.out; have := hE3.size; omega)
  generalize w2.heap.size = y at *
  clear hd1 hm1 hDk hE2 hR3 hE3 hdl hs2 hbz HBx HZ HE HS
  have HC := hid (show ∀ S g l1 F1 l2 F2 W, Pr w wb S d m y g 4000 l1 F1 l2 F2 W → W.cell? ⟨bx, 0, none⟩ = some (.slice A0 m0 c0) ∧ W.cell? ⟨bx, 1, none⟩ = some (.slice A1 m1 c1) ∧ W.cell? ⟨bx, 2, none⟩ = some (.slice A2 m2 c2) ∧ W.cell? ⟨bz, 0, none⟩ = some (.int .i64 x0) ∧ W.cell? ⟨bz, 1, none⟩ = some (.int .i64 x1) ∧ W.cell? ⟨bz, 2, none⟩ = some (.int .i64 x2) from
   fun S g l1 F1 l2 F2 W h => by
    obtain ⟨q0, q1, q2, -⟩ := HB3.out.cells
    obtain ⟨⟨n1, n2, n3⟩, ⟨n4, n5, n6⟩, hx, hz⟩ := Hne.out
    exact ⟨h.cell q0 hx n1 n2 n3, h.cell q1 hx n1 n2 n3, h.cell q2 hx n1 n2 n3, h.cell HZ3.out.1 hz n4 n5 n6, h.cell HZ3.out.2.1 hz n4 n5 n6, h.cell HZ3.out.2.2 hz n4 n5 n6⟩)
  clear HB3 HZ3 Hb
  generalize (fun k => (k = d ∨ k = m ∨ k = bx) ∨ k = y) = SS at *
  have E1 := hid (app_none (q := 4000) (nm := nmC) (bs := D0) may_nmC (by rw [← Hl0.out]; omega) (by rw [← Hl0.out]; omega))
  obtain ⟨b0, -⟩ := HC.out _ _ _ _ _ _ _ HP.out
  go_wp2_with fail
  clear b0
  refine (append_at HP.out.two.disk nmC (by decide) A0 m0 c0 D0 Hl0.out (by omega) (HP.out.arg Hr0.out)).mono ?_
  rintro e w4 ⟨rfl, hD, hK⟩
  rw [E1.out.2, burn_none] at hD
  have HP := hid (HP.out.fst hD hK)
  clear hD hK
  obtain ⟨b0, -⟩ := HC.out _ _ _ _ _ _ _ HP.out
  go_wp2_with fail
  clear b0
  refine (append_ref HP.out.two.ref nmC (by decide) A0 m0 c0 D0 Hl0.out (by omega) (HP.out.arg Hr0.out)).mono ?_
  rintro e w5 ⟨rfl, S5, g5, hR, q2, q3⟩
  rw [E1.out.2, burn_none] at hR
  have HP := hid (HP.out.snd' hR q2 q3)
  clear hR q2 q3
  obtain ⟨-, b1, -⟩ := HC.out _ _ _ _ _ _ _ HP.out
  go_upto_if 61 with (fail)
  clear b1
  go_cut [8] (fun i wx => i = .int .i64 3 ∧ Hid (CutL w wb d m y wx))
  case first =>
   obtain ⟨-, b1, -⟩ := HC.out _ _ _ _ _ _ _ HP.out
   by_cases hm : m1 = 0
   ·subst hm
    have HF := hid (small_one (b := D0) (k := 0) (by rw [← Hl0.out]; exact h80))
    have HN := hid (show CutL w wb d m y w5 from ⟨_, _, _, HP.out, HF.out⟩)
    go_wp2_with fail
    go_meet
    case rel => exact ⟨rfl, HN⟩
   ·have hm0 : (0 : Int) < (m1 : Int) := by omega
    have HF := hid (small_two (b := D0) (k := 0) (c := D1) (j := 0) (by rw [← Hl0.out]; exact h80) (by rw [← Hl1.out]; exact h81))
    have E2 := hid (app_two (q := 4000) (f := ⟨D0, 0⟩) (bs := D1) (by rw [← Hl1.out]; omega) (by show ((D0.length + D1.length : Nat) : Int) ≤ 4000; rw [← Hl0.out, ← Hl1.out]; omega))
    clear E1
    go_wp2_with fail
    clear b1
    refine (append_at HP.out.two.disk nmN (by decide) A1 m1 c1 D1 Hl1.out (by omega) (HP.out.arg Hr1.out)).mono ?_
    rintro e w7 ⟨rfl, hD, hK⟩
    rw [E2.out.2, burn_none] at hD
    have HP := hid (HP.out.fst hD hK)
    clear hD hK
    obtain ⟨-, b1, -⟩ := HC.out _ _ _ _ _ _ _ HP.out
    go_wp2_with fail
    clear b1
    refine (append_ref HP.out.two.ref nmN (by decide) A1 m1 c1 D1 Hl1.out (by omega) (HP.out.arg Hr1.out)).mono ?_
    rintro e w8 ⟨rfl, S6, g6, hR, q2, q3⟩
    rw [E2.out.2, burn_none] at hR
    have HP := hid (HP.out.snd' hR q2 q3)
    have HN := hid (show CutL w wb d m y w8 from ⟨_, _, _, HP.out, HF.out⟩)
    clear hR q2 q3 E2
    go_wp2_with fail
    go_meet
    case rel => exact ⟨rfl, HN⟩
  case rest =>
  clear HP E1
  obtain ⟨-, HN⟩ := hcut
  obtain ⟨S5, g5, F, hP, hF⟩ := HN.out
  have HP := hid hP; have HF := hid hF
  clear HN hP hF
  -- Load of both, from w5 on
  obtain ⟨-, -, -, z0, -, -⟩ := HC.out _ _ _ _ _ _ _ HP.out
  have hcc := ckLoad_at HP.out.two.disk (slR_out (HP.out.row HD.out (S' := fun _ => False) (fun _ h => h.elim))) x0
  go_wp2_with fail
  refine hcc.mono ?_
  clear hcc z0
  (try clear b1)
  rintro e w6 ⟨hE6, hans⟩
  have HP := hid (HP.out.ext hE6)
  obtain ⟨-, -, -, z0, -, -⟩ := HC.out _ _ _ _ _ _ _ HP.out
  have hcc := refLoad17_at HP.out.two.ref (slR_out (HP.out.row HD.out (S' := fun _ => False) (fun _ h => h.elim))) x0
  rcases hans with ⟨hne, rfl⟩ | ⟨h0, x6, p6, L6, S6, rfl, hv6, hO6, -⟩
  ·have Hne0 := hid hne
   clear hne hE6
   go_wp2_with fail
   refine hcc.mono ?_
   clear hcc z0
   rintro e w7 ⟨hE7, hans⟩
   rcases hans with ⟨-, rfl⟩ | ⟨h, -⟩
   rotate_left
   ·exact absurd h Hne0.out
   have HP := hid (HP.out.ext hE7)
   clear hE7
   obtain ⟨me, hme⟩ : ∃ me, me = defsE d5 := ⟨_, rfl⟩
   rw [← hme]
   clear hme Hne0
   have hmm : (me != me) = false := by simp
   go_wp2_with fail
   refine (statesNil_at _).mono ?_
   rintro e wx ⟨rfl, rfl⟩
   go_wp2_with fail
   refine (ownNil_at _).mono ?_
   rintro e wx ⟨rfl, rfl⟩
   clear hmm
   -- Fuse of both, Save of both, Crash of both, what is there: from HP on, at wp
   obtain ⟨-, -, -, -, z1, -⟩ := HC.out _ _ _ _ _ _ _ HP.out
   have hzb := Hzb.out
   go_wp2_with fail
   clear z1
   refine (fuse_at HP.out.two.disk (n := (z : Int)) (by omega)).mono ?_
   rintro e w8 ⟨rfl, hD, hK⟩
   rw [show max (z : Int) 0 = (z : Int) by omega] at hD
   have HP := hid (HP.out.fst hD hK)
   clear hD hK
   obtain ⟨-, -, -, -, z1, -⟩ := HC.out _ _ _ _ _ _ _ HP.out
   go_wp2_with fail
   clear z1 hzb
   refine (fuse_ref HP.out.two.ref (z : Int) (by omega)).mono ?_
   rintro e w9 ⟨rfl, S9, g9, hR, q2, q3⟩
   rw [show max (z : Int) 0 = (z : Int) by omega] at hR
   have HP := hid (HP.out.snd' hR q2 q3)
   clear hR q2 q3
   have Hsa := hid (fun W (hP : Pr w wb S9 d m y g9 4000 (z : Int) F (z : Int) F W) => save_at hP.two.disk Hl2.out (by omega) (c := c2) ((hP.arg Hr2.out).mono fun k hk => ⟨hk.1, fun h => hk.2 (by rcases h with rfl | rfl; exact hP.two.disk.own; exact hP.two.disk.ownM)⟩))
   have Hsr := hid (fun W (hP : Pr w wb S9 d m y g9 4000 (saveS 4000 D2 (z : Int) F).2.1 (saveS 4000 D2 (z : Int) F).2.2 (z : Int) F W) => refSave_at hP.two.ref (c := c2) Hl2.out (by omega) (hP.arg Hr2.out))
   generalize saveS 4000 D2 (z : Int) F = r at *
   obtain ⟨xs, ls, Fs⟩ := r
   dsimp only at Hsa Hsr
   have hxx : (xs != xs) = false := by simp
   go_wp2_with fail
   apply wp_drawn_ph 3 7 (LdB bx A2 m2 c2) (Pr w wb S9 d m y g9 4000 (z : Int) F (z : Int) F) (Pr w wb S9 d m y g9 4000 ls Fs (z : Int) F) ((fun W => ∃ S' g', Pr w wb S' d m y g' 4000 ls Fs ls Fs W)) [isV _, isV _, isV _, isV _, isV _, isV _, isV _, isV _, isV _] (by kernel_rfl)
   ·kernel_rfl
   ·kernel_rfl
   ·intro W hE
    exact ⟨(HC.out _ _ _ _ _ _ _ (HP.out.ext hE)).2.2.1, HP.out.ext hE⟩
   ·refine ⟨?saas0, ?saas1, ?saas2, ?saas3, ?saas4, ?saas5, ?saas6, ?saas7, ?saas8, trivial⟩
    case saas0 =>
     refine @stepPh_quiet _ _ _ _ _ _ _ _ _ _ _ _ (by decide) (by decide) ?_
     intro v W hB hd; simp only [Region.wanted, ↓reduceIte]; (try simp [deps, waitsOn, Region.binds, knowing, isV, ownsV, anyV] at hd); simp only [putAll, List.take_succ_cons, List.take_zero, List.drop_succ_cons, List.drop_zero, Act.put, List.setIfInBounds_toArray, List.set_cons_zero, List.set_cons_succ, Nat.zero_add, Nat.reduceAdd]; obtain ⟨b0, b1, b2, b3, b4⟩ := hB.cells; go_simp; exact ⟨Stay.refl _, rfl⟩
    case saas1 =>
     refine @stepPh_quiet _ _ _ _ _ _ _ _ _ _ _ _ (by decide) (by decide) ?_
     intro v W hB hd; simp only [Region.wanted, ↓reduceIte]; (try simp [deps, waitsOn, Region.binds, knowing, isV, ownsV, anyV] at hd); simp only [putAll, List.take_succ_cons, List.take_zero, List.drop_succ_cons, List.drop_zero, Act.put, List.setIfInBounds_toArray, List.set_cons_zero, List.set_cons_succ, Nat.zero_add, Nat.reduceAdd]; obtain ⟨b0, b1, b2, b3, b4⟩ := hB.cells; go_simp; exact ⟨Stay.refl _, rfl⟩
    case saas2 =>
     refine @stepPh_quiet _ _ _ _ _ _ _ _ _ _ _ _ (by decide) (by decide) ?_
     intro v W hB hd; simp only [Region.wanted, ↓reduceIte]; (try simp [deps, waitsOn, Region.binds, knowing, isV, ownsV, anyV] at hd); simp only [putAll, List.take_succ_cons, List.take_zero, List.drop_succ_cons, List.drop_zero, Act.put, List.setIfInBounds_toArray, List.set_cons_zero, List.set_cons_succ, Nat.zero_add, Nat.reduceAdd]; obtain ⟨b0, b1, b2, b3, b4⟩ := hB.cells; go_simp; exact ⟨Stay.refl _, rfl⟩
    case saas3 =>
     refine @stepPh_fst _ _ _ _ _ _ _ _ _ _ _ ?_
     intro v W hB hd; refine ⟨rfl, ?_⟩; (try simp [deps, waitsOn, Region.binds, knowing, isV, ownsV, anyV] at hd); simp only [putAll, List.take_succ_cons, List.take_zero, List.drop_succ_cons, List.drop_zero, Act.put, List.setIfInBounds_toArray, List.set_cons_zero, List.set_cons_succ, Nat.zero_add, Nat.reduceAdd]
     obtain ⟨hB, hP⟩ := hB
     go_simp
     refine (Hsa.out W hP).mono ?_
     rintro e w' ⟨rfl, hD, hK⟩
     go_simp
     have hP2 := hP.fst hD hK
     exact ⟨⟨(HC.out _ _ _ _ _ _ _ hP2).2.2.1, hP2⟩, rfl⟩
    case saas4 =>
     refine @stepPh_quiet _ _ _ _ _ _ _ _ _ _ _ _ (by decide) (by decide) ?_
     intro v W hB hd; simp only [Region.wanted, ↓reduceIte]; (try simp [deps, waitsOn, Region.binds, knowing, isV, ownsV, anyV] at hd); simp only [putAll, List.take_succ_cons, List.take_zero, List.drop_succ_cons, List.drop_zero, Act.put, List.setIfInBounds_toArray, List.set_cons_zero, List.set_cons_succ, Nat.zero_add, Nat.reduceAdd]; obtain ⟨b0, b1, b2, b3, b4⟩ := hB.cells; go_simp; exact ⟨Stay.refl _, rfl⟩
    case saas5 =>
     refine @stepPh_quiet _ _ _ _ _ _ _ _ _ _ _ _ (by decide) (by decide) ?_
     intro v W hB hd; simp only [Region.wanted, ↓reduceIte]; (try simp [deps, waitsOn, Region.binds, knowing, isV, ownsV, anyV] at hd); simp only [putAll, List.take_succ_cons, List.take_zero, List.drop_succ_cons, List.drop_zero, Act.put, List.setIfInBounds_toArray, List.set_cons_zero, List.set_cons_succ, Nat.zero_add, Nat.reduceAdd]; obtain ⟨b0, b1, b2, b3, b4⟩ := hB.cells; go_simp; exact ⟨Stay.refl _, rfl⟩
    case saas6 =>
     refine @stepPh_quiet _ _ _ _ _ _ _ _ _ _ _ _ (by decide) (by decide) ?_
     intro v W hB hd; simp only [Region.wanted, ↓reduceIte]; (try simp [deps, waitsOn, Region.binds, knowing, isV, ownsV, anyV] at hd); simp only [putAll, List.take_succ_cons, List.take_zero, List.drop_succ_cons, List.drop_zero, Act.put, List.setIfInBounds_toArray, List.set_cons_zero, List.set_cons_succ, Nat.zero_add, Nat.reduceAdd]; obtain ⟨b0, b1, b2, b3, b4⟩ := hB.cells; go_simp; exact ⟨Stay.refl _, rfl⟩
    case saas7 =>
     refine @stepPh_snd _ _ _ _ _ _ _ _ _ _ _ (by decide) ?_
     intro v W hB hd; refine ⟨rfl, ?_⟩; (try simp [deps, waitsOn, Region.binds, knowing, isV, ownsV, anyV] at hd); simp only [putAll, List.take_succ_cons, List.take_zero, List.drop_succ_cons, List.drop_zero, Act.put, List.setIfInBounds_toArray, List.set_cons_zero, List.set_cons_succ, Nat.zero_add, Nat.reduceAdd]
     obtain ⟨hB, hP⟩ := hB
     go_simp
     refine (Hsr.out W hP).mono ?_
     rintro e w' ⟨rfl, hR⟩
     go_simp
     obtain ⟨S', g', hP2⟩ := hP.snd hR
     exact ⟨⟨(HC.out _ _ _ _ _ _ _ hP2).2.2.1, S', g', hP2⟩, rfl⟩
    case saas8 =>
     refine @stepPh_quiet _ _ _ _ _ _ _ _ _ _ _ _ (by decide) (by decide) ?_
     intro v W hB hd; simp only [Region.wanted, ↓reduceIte]; (try simp [deps, waitsOn, Region.binds, knowing, isV, ownsV, anyV] at hd); simp only [putAll, List.take_succ_cons, List.take_zero, List.drop_succ_cons, List.drop_zero, Act.put, List.setIfInBounds_toArray, List.set_cons_zero, List.set_cons_succ, Nat.zero_add, Nat.reduceAdd]; obtain ⟨b0, b1, b2, b3, b4⟩ := hB.cells; go_simp; exact ⟨Stay.refl _, rfl⟩
   ·intro i w1 w2 w3 h
    match i, h with
    | 0, h => exact h
    | 1, h => exact h
    | 2, h => exact h
    | 3, h => exact h
    | 4, h => exact h
    | 5, h => exact h
    | 6, h => exact h
    | 7, h => exact h
    | 8, h => exact h
    | _ + 9, h => exact h
   ·rintro v W10 hB hI ⟨-, -, -, -, -, -, -, -, e8, -⟩
    have e8 := (show v 8 = _ from e8)
    simp only [putAll, List.take_succ_cons, List.take_zero, List.drop_succ_cons, List.drop_zero, Act.put, List.setIfInBounds_toArray, List.set_cons_zero, List.set_cons_succ, Nat.zero_add, Nat.reduceAdd]
    obtain ⟨S10, g10, hP⟩ := hI
    have HP := hid hP
    clear hP hB
    rw [e8]
    clear e8 hxx
    obtain ⟨-, -, -, -, -, z2⟩ := HC.out _ _ _ _ _ _ _ HP.out
    go_wp2_with fail
    clear z2
    refine (crash_at HP.out.two.disk x2 Hx2.out.2).mono ?_
    rintro e w11 ⟨rfl, hD, hK⟩
    have HP := hid (HP.out.fst hD hK)
    clear hD hK
    obtain ⟨-, -, -, -, -, z2⟩ := HC.out _ _ _ _ _ _ _ HP.out
    go_wp2_with fail
    clear z2
    refine (crash_ref HP.out.two.ref x2 Hx2.out.2).mono ?_
    rintro e w12 ⟨rfl, S12, g12, hR, q2, q3⟩
    have HP := hid (HP.out.snd' hR q2 q3)
    clear hR q2 q3
    generalize crashF x2 Fs = Gc at *
    have hl1 := list_at HP.out.two.disk
    have Hl2_ := hid (fun W (hE : Ext w12 W) => list_ref (HP.out.two.ref.ext hE))
    have Hsh := hid (fun nm (h : nm ∈ Gc.map (fun x => x.1)) => (by obtain ⟨p, hp, rfl⟩ := List.mem_map.1 h; exact HP.out.two.disk.short p hp : nm.length ≤ 9223372036854775807))
    generalize Gc.map (fun x => x.1) = nl at *
    go_wp2_with fail
    refine hl1.mono ?_
    clear hl1
    rintro e w13 ⟨v1, rfl, hO1, hE⟩
    have HP := hid (HP.out.ext hE)
    obtain ⟨Av, cv, rfl, hr1⟩ := hO1.read
    have Hr1 := hid hr1
    have hcc := Hl2_.out w13 hE
    clear hE hO1 hr1 Hl2_
    generalize hln : nl.length = ln at *
    have Hln := hid hln
    clear hln
    go_wp2_with fail
    refine hcc.mono ?_
    clear hcc
    rintro e w14 ⟨v2, rfl, hO2, hE⟩
    have HP := hid (HP.out.ext hE)
    have Hr1 := hid (Hr1.out.grow hE)
    obtain ⟨Au, cu, rfl, hr2⟩ := hO2.read
    rw [Hln.out] at hr2 ⊢
    have hcc := texts_at Hr1.out hr2
    rw [decide_eq_true rfl] at hcc
    clear hE hO2 hr2
    go_wp2_with fail
    refine hcc.mono ?_
    clear hcc
    rintro e w15 ⟨rfl, hE⟩
    have HP := hid (HP.out.ext hE)
    have Hr1 := hid (Hr1.out.grow hE)
    have hlm := Hr1.out.2.2.1
    have hlc := Hr1.out.2.1
    clear hE
    go_wp2_with fail
    go_loopw [18, 19] (fun sm i wx => ∃ k : Nat, k ≤ ln ∧ sm = .bool true ∧ i = .int .i64 (k : Int) ∧ Hid (Ext w15 wx)) (fun _ i _ => ln - (intOf i).toNat)
    case atStart => exact ⟨0, by omega, rfl, rfl, hid (Below.refl _ _)⟩
    case round =>
     obtain ⟨k, hk, rfl, rfl, HX⟩ := hrel
     by_cases hlt : k < ln
     ·have hlt' : (k : Int) < (ln : Int) := by omega
      have hk0 : (0 : Int) ≤ (k : Int) := by omega
      have hk00 : ¬ ((k : Int) < 0) := by omega
      have hkx : k < nl.length := by have := Hln.out; omega
      obtain ⟨b, o, rfl, -, hc⟩ := strs_at (Hr1.out.grow HX.out) k hkx
      have Hnm := hid (Hsh.out nl[k] (List.getElem_mem hkx))
      generalize nl[k] = nm at *
      have hcc := readF_at (HP.out.two.disk.ext HX.out) nm Hnm.out
      have Hc := hid hc
      have HPx := hid (HP.out.ext HX.out)
      go_wp2_with fail
      refine hcc.mono ?_
      clear hcc hc
      rintro e w16 ⟨v3, rfl, hO3, hE⟩
      have hc := cell_below hE Hc.out
      have hcc := read_ref (HPx.out.two.ref.ext hE) nm
      have HX2 := hid (Ext.trans' HX.out hE)
      have HO3 := hid hO3
      clear hE hO3 Hc
      go_wp2_with fail
      refine hcc.mono ?_
      clear hcc hc
      rintro e w17 ⟨v4, rfl, hO4, hE⟩
      have HX3 := hid (Ext.trans' HX2.out hE)
      obtain ⟨A3, m3, c3, rfl, rfl, -, hr3⟩ := OB.rd (HO3.out.below hE)
      obtain ⟨A4, m4, c4, rfl, rfl, -, hr4⟩ := OB.rd hO4
      have hs1 := run_str hr3 c3
      have hs2 := run_str hr4 c4
      clear hO4 hr3 hr4 hE HO3 HX2
      generalize readB Gc nm = rb at *
      generalize rb.length = lb at *
      generalize str rb = sb at *
      go_wp2_with fail
      clear hs1 hs2
      go_roundw
      case rel => exact ⟨k + 1, by omega, by simp, by go_num, HX3⟩
      case measure => simp [intOf]; omega
     ·obtain rfl : k = ln := by omega
      have hlt' : ¬ ((k : Int) < (k : Int)) := by omega
      go_wp2_with fail
      go_ret
      exact ⟨rfl, (HP.out.ext HX.out).below⟩
  ·have H0 := hid h0
   clear h0
   go_wp2_with fail
   refine hcc.mono ?_
   clear hcc z0
   rintro e w7 ⟨hE7, hans⟩
   rcases hans with ⟨h, -⟩ | ⟨-, x7, p7, L7, S7, rfl, hv7, hO7⟩
   ·exact absurd H0.out h
   have hPF := putFit_load (most := x0) H0.out HF.out
   rw [← hv7] at hv6
   simp only [Prod.mk.injEq] at hv6
   obtain ⟨rfl, hv⟩ := hv6
   rw [← hv7] at hPF
   dsimp only at hPF
   have HP := hid (HP.out.ext hE7)
   have hs1 := states_at ((hO6.ext hE7).A) (show PutFit (viewP L6) by rw [hv]; exact hPF)
   rw [hv] at hs1
   have Hs2 := hid (fun W (hE : Ext w7 W) => own_at (hO7.ext hE) hPF)
   clear hv hPF hO6 hO7 hE6 hE7 hv7
   generalize setB (viewP L7) = sb at *
   have hxn : (x6 != x6) = false := by simp
   go_wp2_with fail
   refine hs1.mono ?_
   clear hs1
   rintro e w11 ⟨rfl, hE⟩
   have HP := hid (HP.out.ext hE)
   have hcc := Hs2.out w11 hE
   clear hE Hs2
   go_wp2_with fail
   refine hcc.mono ?_
   clear hcc hxn
   rintro e w12 ⟨rfl, hE⟩
   have HP := hid (HP.out.ext hE)
   clear hE
   -- Fuse of both, Save of both, Crash of both, what is there: from HP on, at wp
   obtain ⟨-, -, -, -, z1, -⟩ := HC.out _ _ _ _ _ _ _ HP.out
   have hzb := Hzb.out
   go_wp2_with fail
   clear z1
   refine (fuse_at HP.out.two.disk (n := (z : Int)) (by omega)).mono ?_
   rintro e w8 ⟨rfl, hD, hK⟩
   rw [show max (z : Int) 0 = (z : Int) by omega] at hD
   have HP := hid (HP.out.fst hD hK)
   clear hD hK
   obtain ⟨-, -, -, -, z1, -⟩ := HC.out _ _ _ _ _ _ _ HP.out
   go_wp2_with fail
   clear z1 hzb
   refine (fuse_ref HP.out.two.ref (z : Int) (by omega)).mono ?_
   rintro e w9 ⟨rfl, S9, g9, hR, q2, q3⟩
   rw [show max (z : Int) 0 = (z : Int) by omega] at hR
   have HP := hid (HP.out.snd' hR q2 q3)
   clear hR q2 q3
   have Hsa := hid (fun W (hP : Pr w wb S9 d m y g9 4000 (z : Int) F (z : Int) F W) => save_at hP.two.disk Hl2.out (by omega) (c := c2) ((hP.arg Hr2.out).mono fun k hk => ⟨hk.1, fun h => hk.2 (by rcases h with rfl | rfl; exact hP.two.disk.own; exact hP.two.disk.ownM)⟩))
   have Hsr := hid (fun W (hP : Pr w wb S9 d m y g9 4000 (saveS 4000 D2 (z : Int) F).2.1 (saveS 4000 D2 (z : Int) F).2.2 (z : Int) F W) => refSave_at hP.two.ref (c := c2) Hl2.out (by omega) (hP.arg Hr2.out))
   generalize saveS 4000 D2 (z : Int) F = r at *
   obtain ⟨xs, ls, Fs⟩ := r
   dsimp only at Hsa Hsr
   have hxx : (xs != xs) = false := by simp
   go_wp2_with fail
   apply wp_drawn_ph 3 7 (LdB bx A2 m2 c2) (Pr w wb S9 d m y g9 4000 (z : Int) F (z : Int) F) (Pr w wb S9 d m y g9 4000 ls Fs (z : Int) F) ((fun W => ∃ S' g', Pr w wb S' d m y g' 4000 ls Fs ls Fs W)) [isV _, isV _, isV _, isV _, isV _, isV _, isV _, isV _, isV _] (by kernel_rfl)
   ·kernel_rfl
   ·kernel_rfl
   ·intro W hE
    exact ⟨(HC.out _ _ _ _ _ _ _ (HP.out.ext hE)).2.2.1, HP.out.ext hE⟩
   ·refine ⟨?sabs0, ?sabs1, ?sabs2, ?sabs3, ?sabs4, ?sabs5, ?sabs6, ?sabs7, ?sabs8, trivial⟩
    case sabs0 =>
     refine @stepPh_quiet _ _ _ _ _ _ _ _ _ _ _ _ (by decide) (by decide) ?_
     intro v W hB hd; simp only [Region.wanted, ↓reduceIte]; (try simp [deps, waitsOn, Region.binds, knowing, isV, ownsV, anyV] at hd); simp only [putAll, List.take_succ_cons, List.take_zero, List.drop_succ_cons, List.drop_zero, Act.put, List.setIfInBounds_toArray, List.set_cons_zero, List.set_cons_succ, Nat.zero_add, Nat.reduceAdd]; obtain ⟨b0, b1, b2, b3, b4⟩ := hB.cells; go_simp; exact ⟨Stay.refl _, rfl⟩
    case sabs1 =>
     refine @stepPh_quiet _ _ _ _ _ _ _ _ _ _ _ _ (by decide) (by decide) ?_
     intro v W hB hd; simp only [Region.wanted, ↓reduceIte]; (try simp [deps, waitsOn, Region.binds, knowing, isV, ownsV, anyV] at hd); simp only [putAll, List.take_succ_cons, List.take_zero, List.drop_succ_cons, List.drop_zero, Act.put, List.setIfInBounds_toArray, List.set_cons_zero, List.set_cons_succ, Nat.zero_add, Nat.reduceAdd]; obtain ⟨b0, b1, b2, b3, b4⟩ := hB.cells; go_simp; exact ⟨Stay.refl _, rfl⟩
    case sabs2 =>
     refine @stepPh_quiet _ _ _ _ _ _ _ _ _ _ _ _ (by decide) (by decide) ?_
     intro v W hB hd; simp only [Region.wanted, ↓reduceIte]; (try simp [deps, waitsOn, Region.binds, knowing, isV, ownsV, anyV] at hd); simp only [putAll, List.take_succ_cons, List.take_zero, List.drop_succ_cons, List.drop_zero, Act.put, List.setIfInBounds_toArray, List.set_cons_zero, List.set_cons_succ, Nat.zero_add, Nat.reduceAdd]; obtain ⟨b0, b1, b2, b3, b4⟩ := hB.cells; go_simp; exact ⟨Stay.refl _, rfl⟩
    case sabs3 =>
     refine @stepPh_fst _ _ _ _ _ _ _ _ _ _ _ ?_
     intro v W hB hd; refine ⟨rfl, ?_⟩; (try simp [deps, waitsOn, Region.binds, knowing, isV, ownsV, anyV] at hd); simp only [putAll, List.take_succ_cons, List.take_zero, List.drop_succ_cons, List.drop_zero, Act.put, List.setIfInBounds_toArray, List.set_cons_zero, List.set_cons_succ, Nat.zero_add, Nat.reduceAdd]
     obtain ⟨hB, hP⟩ := hB
     go_simp
     refine (Hsa.out W hP).mono ?_
     rintro e w' ⟨rfl, hD, hK⟩
     go_simp
     have hP2 := hP.fst hD hK
     exact ⟨⟨(HC.out _ _ _ _ _ _ _ hP2).2.2.1, hP2⟩, rfl⟩
    case sabs4 =>
     refine @stepPh_quiet _ _ _ _ _ _ _ _ _ _ _ _ (by decide) (by decide) ?_
     intro v W hB hd; simp only [Region.wanted, ↓reduceIte]; (try simp [deps, waitsOn, Region.binds, knowing, isV, ownsV, anyV] at hd); simp only [putAll, List.take_succ_cons, List.take_zero, List.drop_succ_cons, List.drop_zero, Act.put, List.setIfInBounds_toArray, List.set_cons_zero, List.set_cons_succ, Nat.zero_add, Nat.reduceAdd]; obtain ⟨b0, b1, b2, b3, b4⟩ := hB.cells; go_simp; exact ⟨Stay.refl _, rfl⟩
    case sabs5 =>
     refine @stepPh_quiet _ _ _ _ _ _ _ _ _ _ _ _ (by decide) (by decide) ?_
     intro v W hB hd; simp only [Region.wanted, ↓reduceIte]; (try simp [deps, waitsOn, Region.binds, knowing, isV, ownsV, anyV] at hd); simp only [putAll, List.take_succ_cons, List.take_zero, List.drop_succ_cons, List.drop_zero, Act.put, List.setIfInBounds_toArray, List.set_cons_zero, List.set_cons_succ, Nat.zero_add, Nat.reduceAdd]; obtain ⟨b0, b1, b2, b3, b4⟩ := hB.cells; go_simp; exact ⟨Stay.refl _, rfl⟩
    case sabs6 =>
     refine @stepPh_quiet _ _ _ _ _ _ _ _ _ _ _ _ (by decide) (by decide) ?_
     intro v W hB hd; simp only [Region.wanted, ↓reduceIte]; (try simp [deps, waitsOn, Region.binds, knowing, isV, ownsV, anyV] at hd); simp only [putAll, List.take_succ_cons, List.take_zero, List.drop_succ_cons, List.drop_zero, Act.put, List.setIfInBounds_toArray, List.set_cons_zero, List.set_cons_succ, Nat.zero_add, Nat.reduceAdd]; obtain ⟨b0, b1, b2, b3, b4⟩ := hB.cells; go_simp; exact ⟨Stay.refl _, rfl⟩
    case sabs7 =>
     refine @stepPh_snd _ _ _ _ _ _ _ _ _ _ _ (by decide) ?_
     intro v W hB hd; refine ⟨rfl, ?_⟩; (try simp [deps, waitsOn, Region.binds, knowing, isV, ownsV, anyV] at hd); simp only [putAll, List.take_succ_cons, List.take_zero, List.drop_succ_cons, List.drop_zero, Act.put, List.setIfInBounds_toArray, List.set_cons_zero, List.set_cons_succ, Nat.zero_add, Nat.reduceAdd]
     obtain ⟨hB, hP⟩ := hB
     go_simp
     refine (Hsr.out W hP).mono ?_
     rintro e w' ⟨rfl, hR⟩
     go_simp
     obtain ⟨S', g', hP2⟩ := hP.snd hR
     exact ⟨⟨(HC.out _ _ _ _ _ _ _ hP2).2.2.1, S', g', hP2⟩, rfl⟩
    case sabs8 =>
     refine @stepPh_quiet _ _ _ _ _ _ _ _ _ _ _ _ (by decide) (by decide) ?_
     intro v W hB hd; simp only [Region.wanted, ↓reduceIte]; (try simp [deps, waitsOn, Region.binds, knowing, isV, ownsV, anyV] at hd); simp only [putAll, List.take_succ_cons, List.take_zero, List.drop_succ_cons, List.drop_zero, Act.put, List.setIfInBounds_toArray, List.set_cons_zero, List.set_cons_succ, Nat.zero_add, Nat.reduceAdd]; obtain ⟨b0, b1, b2, b3, b4⟩ := hB.cells; go_simp; exact ⟨Stay.refl _, rfl⟩
   ·intro i w1 w2 w3 h
    match i, h with
    | 0, h => exact h
    | 1, h => exact h
    | 2, h => exact h
    | 3, h => exact h
    | 4, h => exact h
    | 5, h => exact h
    | 6, h => exact h
    | 7, h => exact h
    | 8, h => exact h
    | _ + 9, h => exact h
   ·rintro v W10 hB hI ⟨-, -, -, -, -, -, -, -, e8, -⟩
    have e8 := (show v 8 = _ from e8)
    simp only [putAll, List.take_succ_cons, List.take_zero, List.drop_succ_cons, List.drop_zero, Act.put, List.setIfInBounds_toArray, List.set_cons_zero, List.set_cons_succ, Nat.zero_add, Nat.reduceAdd]
    obtain ⟨S10, g10, hP⟩ := hI
    have HP := hid hP
    clear hP hB
    rw [e8]
    clear e8 hxx
    obtain ⟨-, -, -, -, -, z2⟩ := HC.out _ _ _ _ _ _ _ HP.out
    go_wp2_with fail
    clear z2
    refine (crash_at HP.out.two.disk x2 Hx2.out.2).mono ?_
    rintro e w11 ⟨rfl, hD, hK⟩
    have HP := hid (HP.out.fst hD hK)
    clear hD hK
    obtain ⟨-, -, -, -, -, z2⟩ := HC.out _ _ _ _ _ _ _ HP.out
    go_wp2_with fail
    clear z2
    refine (crash_ref HP.out.two.ref x2 Hx2.out.2).mono ?_
    rintro e w12 ⟨rfl, S12, g12, hR, q2, q3⟩
    have HP := hid (HP.out.snd' hR q2 q3)
    clear hR q2 q3
    generalize crashF x2 Fs = Gc at *
    have hl1 := list_at HP.out.two.disk
    have Hl2_ := hid (fun W (hE : Ext w12 W) => list_ref (HP.out.two.ref.ext hE))
    have Hsh := hid (fun nm (h : nm ∈ Gc.map (fun x => x.1)) => (by obtain ⟨p, hp, rfl⟩ := List.mem_map.1 h; exact HP.out.two.disk.short p hp : nm.length ≤ 9223372036854775807))
    generalize Gc.map (fun x => x.1) = nl at *
    go_wp2_with fail
    refine hl1.mono ?_
    clear hl1
    rintro e w13 ⟨v1, rfl, hO1, hE⟩
    have HP := hid (HP.out.ext hE)
    obtain ⟨Av, cv, rfl, hr1⟩ := hO1.read
    have Hr1 := hid hr1
    have hcc := Hl2_.out w13 hE
    clear hE hO1 hr1 Hl2_
    generalize hln : nl.length = ln at *
    have Hln := hid hln
    clear hln
    go_wp2_with fail
    refine hcc.mono ?_
    clear hcc
    rintro e w14 ⟨v2, rfl, hO2, hE⟩
    have HP := hid (HP.out.ext hE)
    have Hr1 := hid (Hr1.out.grow hE)
    obtain ⟨Au, cu, rfl, hr2⟩ := hO2.read
    rw [Hln.out] at hr2 ⊢
    have hcc := texts_at Hr1.out hr2
    rw [decide_eq_true rfl] at hcc
    clear hE hO2 hr2
    go_wp2_with fail
    refine hcc.mono ?_
    clear hcc
    rintro e w15 ⟨rfl, hE⟩
    have HP := hid (HP.out.ext hE)
    have Hr1 := hid (Hr1.out.grow hE)
    have hlm := Hr1.out.2.2.1
    have hlc := Hr1.out.2.1
    clear hE
    go_wp2_with fail
    go_loopw [18, 19] (fun sm i wx => ∃ k : Nat, k ≤ ln ∧ sm = .bool true ∧ i = .int .i64 (k : Int) ∧ Hid (Ext w15 wx)) (fun _ i _ => ln - (intOf i).toNat)
    case atStart => exact ⟨0, by omega, rfl, rfl, hid (Below.refl _ _)⟩
    case round =>
     obtain ⟨k, hk, rfl, rfl, HX⟩ := hrel
     by_cases hlt : k < ln
     ·have hlt' : (k : Int) < (ln : Int) := by omega
      have hk0 : (0 : Int) ≤ (k : Int) := by omega
      have hk00 : ¬ ((k : Int) < 0) := by omega
      have hkx : k < nl.length := by have := Hln.out; omega
      obtain ⟨b, o, rfl, -, hc⟩ := strs_at (Hr1.out.grow HX.out) k hkx
      have Hnm := hid (Hsh.out nl[k] (List.getElem_mem hkx))
      generalize nl[k] = nm at *
      have hcc := readF_at (HP.out.two.disk.ext HX.out) nm Hnm.out
      have Hc := hid hc
      have HPx := hid (HP.out.ext HX.out)
      go_wp2_with fail
      refine hcc.mono ?_
      clear hcc hc
      rintro e w16 ⟨v3, rfl, hO3, hE⟩
      have hc := cell_below hE Hc.out
      have hcc := read_ref (HPx.out.two.ref.ext hE) nm
      have HX2 := hid (Ext.trans' HX.out hE)
      have HO3 := hid hO3
      clear hE hO3 Hc
      go_wp2_with fail
      refine hcc.mono ?_
      clear hcc hc
      rintro e w17 ⟨v4, rfl, hO4, hE⟩
      have HX3 := hid (Ext.trans' HX2.out hE)
      obtain ⟨A3, m3, c3, rfl, rfl, -, hr3⟩ := OB.rd (HO3.out.below hE)
      obtain ⟨A4, m4, c4, rfl, rfl, -, hr4⟩ := OB.rd hO4
      have hs1 := run_str hr3 c3
      have hs2 := run_str hr4 c4
      clear hO4 hr3 hr4 hE HO3 HX2
      generalize readB Gc nm = rb at *
      generalize rb.length = lb at *
      generalize str rb = sb at *
      go_wp2_with fail
      clear hs1 hs2
      go_roundw
      case rel => exact ⟨k + 1, by omega, by simp, by go_num, HX3⟩
      case measure => simp [intOf]; omega
     ·obtain rfl : k = ln := by omega
      have hlt' : ¬ ((k : Int) < (k : Int)) := by omega
      go_wp2_with fail
      go_ret
      exact ⟨rfl, (HP.out.ext HX.out).below⟩
end Go.Proofs.YtakebdeldndaaaaGreatDoor
