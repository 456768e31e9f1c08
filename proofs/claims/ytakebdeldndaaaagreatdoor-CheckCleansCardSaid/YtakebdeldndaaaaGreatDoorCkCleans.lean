/- The law CheckCleans. -/
import Derived.Test.YtakebdeldndaaaaGreatDoorCkQ
import Derived.Test.YtakebdeldndaaaaGreatDoorFsMath
namespace Go.Proofs.YtakebdeldndaaaaGreatDoor
open Go Go.RowKit
set_option linter.unusedSimpArgs false
set_option linter.unusedVariables false
def Box2 (bx : Nat) (A0 : Option Addr) (m0 c0 : Nat) (A1 : Option Addr) (m1 c1 : Nat) (w : World) : Prop := w.heap[bx]? = some (.cells #[.slice A0 m0 c0, .slice A1 m1 c1] 24)
theorem Box2.cells {bx : Nat} {A0 A1 : Option Addr} {m0 c0 m1 c1 : Nat} {w : World} (h : Box2 bx A0 m0 c0 A1 m1 c1 w) : w.cell? ⟨bx, 0, none⟩ = some (.slice A0 m0 c0) ∧ w.cell? ⟨bx, 1, none⟩ = some (.slice A1 m1 c1) ∧ (∀ o, w.frozen? ⟨bx, o, none⟩ = false) := by
  unfold Box2 at h
  refine ⟨?_, ?_, fun o => by simp [World.frozen?, h]⟩ <;> · rw [cell_of_row _ _ _ _ _ _ h]; rfl
theorem Box2.set0 {bx : Nat} {A0 A1 : Option Addr} {m0 c0 m1 c1 : Nat} (n : Nat) {w : World} (h : Box2 bx A0 m0 c0 A1 m1 c1 w) : Box2 bx A0 n c0 A1 m1 c1 (w.setCell ⟨bx, 0, none⟩ (.slice A0 n c0)) := heap_setCell_row (o := 0) h _
theorem Box2.set1 {bx : Nat} {A0 A1 : Option Addr} {m0 c0 m1 c1 : Nat} (n : Nat) {w : World} (h : Box2 bx A0 m0 c0 A1 m1 c1 w) : Box2 bx A0 m0 c0 A1 n c1 (w.setCell ⟨bx, 1, none⟩ (.slice A1 n c1)) := heap_setCell_row (o := 1) h _
theorem kept_set {w : World} {b o : Nat} {v : Value} : Kept2 b b w (w.setCell ⟨b, o, none⟩ v) := ⟨rfl, rfl, rfl, by simp, fun j hj h1 _ => heap_setCell_other w ⟨b, o, none⟩ j _ (fun e => h1 e)⟩
def IntBox (bz : Nat) (x0 x1 : Int) (w : World) : Prop := w.cell? ⟨bz, 0, none⟩ = some (.int .i64 x0) ∧ w.cell? ⟨bz, 1, none⟩ = some (.int .i64 x1)
theorem IntBox.ext {bz : Nat} {x0 x1 : Int} {w w' : World} (h : IntBox bz x0 x1 w) (hE : Ext w w') : IntBox bz x0 x1 w' := ⟨cell_below hE h.1, cell_below hE h.2⟩
theorem IntBox.kept {bz : Nat} {x0 x1 : Int} {w w' : World} (h : IntBox bz x0 x1 w) {a b : Nat} (hk : Kept2 a b w w') (h1 : bz ≠ a) (h2 : bz ≠ b) : IntBox bz x0 x1 w' := ⟨hk.cell' h.1 h1 h2, hk.cell' h.2 h1 h2⟩
theorem crash_try {ds : List DefV} {F : Files} {keep most : Int} (h : ∀ nm f, atF F nm = some f → (f.b.length : Int) ≤ keep) (nm : List UInt8) : tryO ds (crashF keep F) nm most = tryO ds F nm most := by
  unfold tryO
  rw [atF_crashF]
  cases hf : atF F nm with
  | none => rfl
  | some f =>
    simp only [Option.map_some]
    rw [crash1_b (h nm f hf)]
theorem loadR_same {ds : List DefV} {F G : Files} {most : Int} (h1 : tryO ds F nmC most = tryO ds G nmC most) (h2 : tryO ds F nmN most = tryO ds G nmN most) : loadR ds F most = loadR ds G most := by
  unfold loadR
  rw [h1, h2]
theorem stepC_try {ds : List DefV} {most l : Int} {F : Files} {nm k : List UInt8} : tryO ds (stepC ds most nm l F).2.2 k most = tryO ds F k most ∧ ∀ f, atF (stepC ds most nm l F).2.2 k = some f → atF F k = some f := by
  unfold stepC
  by_cases h : atF F nm = none ∨ (tryO ds F nm most).isSome = true
  · rw [if_pos h]
    exact ⟨rfl, fun f h => h⟩
  · rw [if_neg h]
    dsimp only
    have h1 : atF F nm ≠ none := fun e => h (.inl e)
    have h2 : tryO ds F nm most = none := by
      cases ht : tryO ds F nm most with
      | none => rfl
      | some r => exact absurd (.inr (by rw [ht]; rfl)) h
    unfold dropF
    by_cases hl : l = 0
    · rw [if_pos hl]
      exact ⟨rfl, fun f h => h⟩
    · rw [if_neg hl]
      cases hf : atF F nm with
      | none => exact absurd hf h1
      | some f =>
        dsimp only
        by_cases hk : k = nm
        · subst hk
          have hd : atF (delF k F) k = none := by
            unfold atF delF
            have : (F.filter fun p => !(p.1 == k)).find? (fun p => p.1 == k) = none := by
              rw [List.find?_eq_none]
              intro x hx
              have := (List.mem_filter.1 hx).2
              simpa using this
            rw [this]; rfl
          refine ⟨?_, fun g hg => by rw [hd] at hg; cases hg⟩
          rw [h2]
          unfold tryO
          rw [hd]
        · have hd := atF_delF_ne (F := F) hk
          refine ⟨?_, fun g hg => by rw [hd] at hg; exact hg⟩
          unfold tryO
          rw [hd]
theorem restC_try {ds : List DefV} {most : Int} {k : List UInt8} : ∀ (n : Nat) (l : Int) (F : Files), tryO ds (restC ds most n l F).2.2 k most = tryO ds F k most ∧ ∀ f, atF (restC ds most n l F).2.2 k = some f → atF F k = some f
  | 0, l, F => ⟨rfl, fun f h => h⟩
  | n + 1, l, F => by
    rw [restC_step]
    generalize (if n = 1 then nmN else nmC) = nm
    have h1 := stepC_try (ds := ds) (most := most) (l := l) (F := F) (nm := nm) (k := k)
    by_cases hx : (stepC ds most nm l F).1 = 0
    · rw [if_pos hx]
      have h2 := restC_try (ds := ds) (most := most) (k := k) n (stepC ds most nm l F).2.1 (stepC ds most nm l F).2.2
      exact ⟨h2.1.trans h1.1, fun f h => h1.2 f (h2.2 f h)⟩
    · rw [if_neg hx]
      exact h1
theorem clean_load {ds : List DefV} {most l keep : Int} {F : Files} {r : Int × Int × Files} (hc : cleanS ds most l F = r) (hF : ∀ nm f, atF F nm = some f → f.b.length ≤ 2000) (hk : 2000 ≤ keep) :
    loadR ds (crashF keep r.2.2) most = loadR ds F most := by
  unfold cleanS at hc
  split at hc
  · subst hc
    dsimp only
    exact loadR_same (crash_try (fun nm f h => by have := hF nm f h; omega) _) (crash_try (fun nm f h => by have := hF nm f h; omega) _)
  · subst hc
    have hb : ∀ nm f, atF (restC ds most 2 l F).2.2 nm = some f → (f.b.length : Int) ≤ keep := fun nm f h => by have := hF nm f ((restC_try (k := nm) 2 l F).2 f h); omega
    exact loadR_same ((crash_try hb _).trans (restC_try 2 l F).1) ((crash_try hb _).trans (restC_try 2 l F).1)
set_option maxRecDepth 100000 in
set_option maxHeartbeats 8000000 in
theorem checkCleans_in (A : Option Addr) (n c : Nat) (ds : List DefV) (A0 : Option Addr) (n0 c0 : Nat) (B0 : List UInt8) (A1 : Option Addr) (n1 c1 : Nat) (B1 : List UInt8) (x0 x1 : Int) (w : World) (hd : SlR RDef w (· < w.heap.size) A n c ds) (h0 : InB w A0 n0 c0 B0) (h1 : InB w A1 n1 c1 B1) (hx0 : I64 x0) (hx1 : I64 x1) :
    Calls Tryz.prog 3 #[.slice A n c, .agg #[.slice A0 n0 c0, .slice A1 n1 c1], .agg #[.int .i64 x0, .int .i64 x1]] w fun e w' => e = .returned (.bool true) ∧ Below w.heap.size w w' := by
  have Hd := hid hd
  have HB0 := hid h0; have HB1 := hid h1
  have hc0 := h0.cap; have hc1 := h1.cap; have hcm0 := h0.max; have hcm1 := h1.max
  obtain ⟨z, hz, hzb⟩ := mask_bits x1 3 (by decide)
  have hzb : bits .and .i64 x1 3 = (z : Int) := hzb
  have Hzb := hid hzb
  have hEa := ext_alloc w (.cells #[.slice A0 n0 c0, .slice A1 n1 c1] 24)
  have hEb := ext_alloc (w.alloc (.cells #[.slice A0 n0 c0, .slice A1 n1 c1] 24)) (.cells #[.int .i64 x0, .int .i64 x1] 25)
  have HE0 := hid (Ext.trans' hEa hEb)
  have HBx := hid (show Box2 w.heap.size A0 n0 c0 A1 n1 c1 ((w.alloc (.cells #[.slice A0 n0 c0, .slice A1 n1 c1] 24)).alloc (.cells #[.int .i64 x0, .int .i64 x1] 25)) from (hEb.block w.heap.size (by simp)).trans (heap_alloc_last w (.cells #[.slice A0 n0 c0, .slice A1 n1 c1] 24)))
  have HZ := hid (show IntBox (w.heap.size + 1) x0 x1 ((w.alloc (.cells #[.slice A0 n0 c0, .slice A1 n1 c1] 24)).alloc (.cells #[.int .i64 x0, .int .i64 x1] 25)) from by
    have h2 := heap_alloc_last (w.alloc (.cells #[.slice A0 n0 c0, .slice A1 n1 c1] 24)) (.cells #[.int .i64 x0, .int .i64 x1] 25)
    rw [show (w.alloc (.cells #[.slice A0 n0 c0, .slice A1 n1 c1] 24)).heap.size = w.heap.size + 1 by simp] at h2
    constructor <;> · rw [cell_of_row _ _ _ _ _ _ h2]; rfl)
  have Hsz0 := hid (show ((w.alloc (.cells #[.slice A0 n0 c0, .slice A1 n1 c1] 24)).alloc (.cells #[.int .i64 x0, .int .i64 x1] 25)).heap.size = w.heap.size + 2 by simp)
  clear hd h0 h1 hEa hEb hzb hx1 hx0
  go_enter Tryz.func3, Tryz.ntmps3
  go_wp2_with fail
  generalize (w.alloc (.cells #[.slice A0 n0 c0, .slice A1 n1 c1] 24)).alloc (.cells #[.int .i64 x0, .int .i64 x1] 25) = w0 at *
  obtain ⟨bz, hbz⟩ : ∃ b, b = w.heap.size + 1 := ⟨_, rfl⟩
  obtain ⟨bx, hbx⟩ : ∃ b, b = w.heap.size := ⟨_, rfl⟩
  rw [← hbz] at HZ ⊢
  rw [← hbx] at HBx ⊢
  have Hb := hid (show w.heap.size ≤ bx ∧ bx < bz ∧ bz < w0.heap.size by have := Hsz0.out; omega)
  clear hbz hbx
  refine (shown17_at w0).mono ?_
  rintro e w1 ⟨rfl, hE1⟩
  have HE1 := hid (HE0.out.trans' hE1)
  have HBx := hid (show Box2 bx A0 n0 c0 A1 n1 c1 w1 from (hE1.block bx (by have := Hb.out; omega)).trans HBx.out)
  have HZ := hid (HZ.out.ext hE1)
  have Hb := hid (show w.heap.size ≤ bx ∧ bx < bz ∧ bz < w1.heap.size by have := Hb.out; have := hE1.size; omega)
  clear hE1
  go_wp2_with fail
  refine (few_at (K := (· < w.heap.size)) (Hd.out.ext fun k hk => HE1.out.block k hk)).mono ?_
  rintro e wx ⟨⟨n5, rfl, hn5, hd5⟩, hw⟩
  obtain rfl : w1 = wx := hw.symm
  have HD := hid (show SlR RDef w (· < w.heap.size) A n5 c (ds.take 5) from hd5.ext fun k hk => (HE1.out.block k hk).symm)
  clear hw hd5 Hd
  generalize ds.take 5 = d5 at *
  go_wp2_with fail
  refine (newDisk_at 4000).mono ?_
  rintro e w2 ⟨d, m, rfl, hd1, hm1, hDk, hE2⟩
  rw [show max (4000 : Int) 0 = 4000 by decide] at hDk
  have hdl := hDk.lt
  have hs2 := hE2.size
  go_wp2_with fail
  refine (refDisk_at 4000 w2 (fun k => k = d ∨ k = m ∨ k = bx) (fun k hk h => by have := Hb.out; omega)).mono ?_
  rintro e w3 ⟨rfl, hR3, hE3⟩
  rw [show max (4000 : Int) 0 = 4000 by decide] at hR3
  have HP := hid (pr_new (bx := bx) HE1.out (by have := Hb.out; omega) hd1 hm1 hDk hE2 hR3 hE3)
  have HBx := hid (show Box2 bx A0 n0 c0 A1 n1 c1 w3 from (hE3.block bx (by have := Hb.out; omega)).trans ((hE2.block bx (by have := Hb.out; omega)).trans HBx.out))
  have HZ := hid ((HZ.out.ext hE2).ext hE3)
  have Hne := hid (show (bx ≠ d ∧ bx ≠ m ∧ bx ≠ w2.heap.size) ∧ (bz ≠ d ∧ bz ≠ m ∧ bz ≠ w2.heap.size) ∧ bx ≠ bz by have := Hb.out; omega)
  have Hbz := hid (show bz < w3.heap.size by have := Hb.out; have := hE3.size; omega)
  have Hdm := hid (show d < w3.heap.size ∧ m < w3.heap.size ∧ w2.heap.size < w3.heap.size by have := hE3.size; have := hR3.lt; omega)
  generalize w2.heap.size = y at *
  have HSb := hid (show (fun k => (k = d ∨ k = m ∨ k = bx) ∨ k = y) bx from .inl (.inr (.inr rfl)))
  generalize (fun k => (k = d ∨ k = m ∨ k = bx) ∨ k = y) = SS at *
  clear hd1 hm1 hDk hE2 hR3 hE3 hdl hs2
  go_wp2_with fail
  go_loopw [10] (fun i wr => ∃ (k m0 m1 : Nat), k ≤ 2 ∧ i = .int .i64 (k : Int) ∧ (m0 ≤ c0 ∧ m1 ≤ c1) ∧ Hid (Box2 bx A0 m0 c0 A1 m1 c1 wr) ∧ Hid (Pr w wr SS d m y y 4000 (-1) [] (-1) [] wr) ∧ Hid (IntBox bz x0 x1 wr) ∧ Hid (w3.heap.size ≤ wr.heap.size) ∧ Hid ((k = 0 → m0 = n0) ∧ (1 ≤ k → m0 = min n0 800) ∧ (k ≤ 1 → m1 = n1) ∧ (2 ≤ k → m1 = min n1 800))) (fun i _ => 2 - (intOf i).toNat)
  case atStart => exact ⟨0, n0, n1, by omega, rfl, ⟨by omega, by omega⟩, HBx, HP, HZ, hid (Nat.le_refl _), hid ⟨fun _ => rfl, fun h => by omega, fun _ => rfl, fun h => by omega⟩⟩
  case round =>
    clear HP HBx HZ
    obtain ⟨k, m0, m1, hk, rfl, hmc, HBx, HP, HZ, HW, HM⟩ := hrel
    obtain ⟨b0, b1, bf⟩ := HBx.out.cells
    by_cases hk0 : k = 0
    · subst hk0
      have hm0 : m0 = n0 := HM.out.1 rfl
      by_cases h8 : 800 < m0
      · have hlt : (800 : Int) < (m0 : Int) := by omega
        have hcap : (800 : Int) ≤ (c0 : Int) := by omega
        have HB2 := hid (HBx.out.set0 800)
        have HP2 := hid (HP.out.wrote (kept_set (o := 0) (v := .slice A0 800 c0)) HSb.out (fun e => Hne.out.1.1 e.symm) (fun e => Hne.out.1.2.1 e.symm) (fun e => Hne.out.1.2.2 e.symm))
        have HZ2 := hid (HZ.out.kept (kept_set (b := bx) (o := 0) (v := .slice A0 800 c0)) (fun e => Hne.out.2.2 e.symm) (fun e => Hne.out.2.2 e.symm))
        have HM2 := hid (show (0 + 1 = 0 → 800 = n0) ∧ (1 ≤ 0 + 1 → 800 = min n0 800) ∧ (0 + 1 ≤ 1 → m1 = n1) ∧ (2 ≤ 0 + 1 → m1 = min n1 800) from ⟨fun h => by omega, fun _ => by omega, fun _ => HM.out.2.2.1 (by omega), fun h => by omega⟩)
        clear hm0
        go_wp2_with fail
        go_roundw
        case rel => exact ⟨0 + 1, 800, m1, by omega, by go_num, ⟨by omega, hmc.2⟩, HB2, HP2, HZ2, hid (by have := HW.out; simpa using this), HM2⟩
        case measure => simp [intOf]
      · have hlt : ¬ ((800 : Int) < (m0 : Int)) := by omega
        have HM2 := hid (show (0 + 1 = 0 → m0 = n0) ∧ (1 ≤ 0 + 1 → m0 = min n0 800) ∧ (0 + 1 ≤ 1 → m1 = n1) ∧ (2 ≤ 0 + 1 → m1 = min n1 800) from ⟨fun h => by omega, fun _ => by omega, fun _ => HM.out.2.2.1 (by omega), fun h => by omega⟩)
        clear hm0
        go_wp2_with fail
        go_roundw
        case rel => exact ⟨0 + 1, m0, m1, by omega, by go_num, hmc, HBx, HP, HZ, HW, HM2⟩
        case measure => simp [intOf]
    by_cases hk1 : k = 1
    · subst hk1
      have hm1 : m1 = n1 := HM.out.2.2.1 (by omega)
      by_cases h8 : 800 < m1
      · have hlt : (800 : Int) < (m1 : Int) := by omega
        have hcap : (800 : Int) ≤ (c1 : Int) := by omega
        have HB2 := hid (HBx.out.set1 800)
        have HP2 := hid (HP.out.wrote (kept_set (o := 1) (v := .slice A1 800 c1)) HSb.out (fun e => Hne.out.1.1 e.symm) (fun e => Hne.out.1.2.1 e.symm) (fun e => Hne.out.1.2.2 e.symm))
        have HZ2 := hid (HZ.out.kept (kept_set (b := bx) (o := 1) (v := .slice A1 800 c1)) (fun e => Hne.out.2.2 e.symm) (fun e => Hne.out.2.2 e.symm))
        have HM2 := hid (show (1 + 1 = 0 → m0 = n0) ∧ (1 ≤ 1 + 1 → m0 = min n0 800) ∧ (1 + 1 ≤ 1 → 800 = n1) ∧ (2 ≤ 1 + 1 → 800 = min n1 800) from ⟨fun h => by omega, fun _ => HM.out.2.1 (by omega), fun h => by omega, fun _ => by omega⟩)
        clear hm1
        go_wp2_with fail
        go_roundw
        case rel => exact ⟨1 + 1, m0, 800, by omega, by go_num, ⟨hmc.1, by omega⟩, HB2, HP2, HZ2, hid (by have := HW.out; simpa using this), HM2⟩
        case measure => simp [intOf]
      · have hlt : ¬ ((800 : Int) < (m1 : Int)) := by omega
        have HM2 := hid (show (1 + 1 = 0 → m0 = n0) ∧ (1 ≤ 1 + 1 → m0 = min n0 800) ∧ (1 + 1 ≤ 1 → m1 = n1) ∧ (2 ≤ 1 + 1 → m1 = min n1 800) from ⟨fun h => by omega, fun _ => HM.out.2.1 (by omega), fun h => by omega, fun _ => by omega⟩)
        clear hm1
        go_wp2_with fail
        go_roundw
        case rel => exact ⟨1 + 1, m0, m1, by omega, by go_num, hmc, HBx, HP, HZ, HW, HM2⟩
        case measure => simp [intOf]
    obtain rfl : k = 2 := by omega
    clear hk0 hk1 hk
    have hm0 : m0 = min n0 800 := HM.out.2.1 (by omega)
    have hm1 : m1 = min n1 800 := HM.out.2.2.2 (by omega)
    have Hr0 := hid (HB0.out.read.take m0); have Hr1 := hid (HB1.out.read.take m1)
    have Hl0 := hid (show m0 = (B0.take m0).length by rw [List.length_take]; have := HB0.out.len; omega)
    have Hl1 := hid (show m1 = (B1.take m1).length by rw [List.length_take]; have := HB1.out.len; omega)
    have h80 : m0 ≤ 800 := by omega
    have h81 : m1 ≤ 800 := by omega
    clear hm0 hm1 HM HB0 HB1
    generalize B0.take m0 = D0 at *
    generalize B1.take m1 = D1 at *
    have HC := hid (show ∀ S g l1 F1 l2 F2 W, Pr w wr S d m y g 4000 l1 F1 l2 F2 W → W.cell? ⟨bx, 0, none⟩ = some (.slice A0 m0 c0) ∧ W.cell? ⟨bx, 1, none⟩ = some (.slice A1 m1 c1) ∧ W.cell? ⟨bz, 0, none⟩ = some (.int .i64 x0) ∧ W.cell? ⟨bz, 1, none⟩ = some (.int .i64 x1) from
      fun S g l1 F1 l2 F2 W h =>
        have hz : bz < wr.heap.size := Nat.lt_of_lt_of_le Hbz.out HW.out
        have hx : bx < wr.heap.size := by have := Hb.out; omega
        ⟨h.cell b0 hx Hne.out.1.1 Hne.out.1.2.1 Hne.out.1.2.2, h.cell b1 hx Hne.out.1.1 Hne.out.1.2.1 Hne.out.1.2.2, h.cell HZ.out.1 hz Hne.out.2.1.1 Hne.out.2.1.2.1 Hne.out.2.1.2.2, h.cell HZ.out.2 hz Hne.out.2.1.1 Hne.out.2.1.2.1 Hne.out.2.1.2.2⟩)
    clear HBx HZ HW Hb Hbz bf
    have e1 := app_none (q := 4000) (nm := nmC) (bs := D0) may_nmC (by rw [← Hl0.out]; omega) (by rw [← Hl0.out]; omega)
    have E1 := hid e1
    clear e1
    go_wp2_with fail
    clear b0 b1
    refine (append_at HP.out.two.disk nmC (by decide) A0 m0 c0 D0 Hl0.out (by omega) (HP.out.arg Hr0.out)).mono ?_
    rintro e w4 ⟨rfl, hD, hK⟩
    rw [E1.out.2, burn_none] at hD
    have HP := hid (HP.out.fst hD hK)
    clear hD hK
    obtain ⟨b0, -, -, -⟩ := HC.out _ _ _ _ _ _ _ HP.out
    go_wp2_with fail
    clear b0
    refine (append_ref HP.out.two.ref nmC (by decide) A0 m0 c0 D0 Hl0.out (by omega) (HP.out.arg Hr0.out)).mono ?_
    rintro e w5 ⟨rfl, hR⟩
    rw [E1.out.2, burn_none] at hR
    obtain ⟨S5, g5, hP⟩ := HP.out.snd hR
    have HP := hid hP
    clear hR hP
    obtain ⟨-, b1, -, -⟩ := HC.out _ _ _ _ _ _ _ HP.out
    by_cases hm : m1 = 0
    · subst hm
      have HF := hid (small_one (b := D0) (k := 0) (by rw [← Hl0.out]; exact h80))
      clear E1
      generalize [(nmC, (⟨D0, 0⟩ : File))] = F at *
      -- from w5 on: HP; HF the files are small
      obtain ⟨-, -, z0, -⟩ := HC.out _ _ _ _ _ _ _ HP.out
      have hcc := ckLoad_at HP.out.two.disk (slR_out (HP.out.row HD.out (S' := fun _ => False) (fun _ h => h.elim))) x0
      have Hg0 := hid (show d < w5.heap.size ∧ m < w5.heap.size ∧ y < w5.heap.size ∧ g5 < w5.heap.size from ⟨HP.out.two.disk.lt.1, HP.out.two.disk.lt.2, HP.out.two.ref.lt, HP.out.two.ref.glt⟩)
      go_wp2_with fail
      refine hcc.mono ?_
      clear hcc z0
      (try clear b1)
      rintro e w6 ⟨hE6, hans⟩
      have HP := hid (HP.out.ext hE6)
      rcases hans with ⟨hne, rfl⟩ | ⟨h0, x6, p6, L6, S6, rfl, hv6, -, hHi6⟩
      · have Hne0 := hid hne
        clear hne hE6
        obtain ⟨me, hme⟩ : ∃ me, me = defsE d5 := ⟨_, rfl⟩
        rw [← hme]
        have Hme := hid hme
        clear hme
        -- Fuse, Clean, Crash of both; List, Texts: from w6 on (HP); KD, KR: what is kept at each call of the disk, of the reference's
        obtain ⟨-, -, -, z1⟩ := HC.out _ _ _ _ _ _ _ HP.out
        have hzb := Hzb.out
        go_wp2_with fail
        clear z1
        refine (fuse_at HP.out.two.disk (n := (z : Int)) (by omega)).mono ?_
        rintro e w7 ⟨rfl, hD, hK⟩
        rw [show max (z : Int) 0 = (z : Int) by omega] at hD
        have HP := hid (HP.out.fst hD hK)
        skip
        clear hD hK
        obtain ⟨-, -, -, z1⟩ := HC.out _ _ _ _ _ _ _ HP.out
        go_wp2_with fail
        clear z1 hzb
        refine (fuse_ref HP.out.two.ref (z : Int) (by omega)).mono ?_
        rintro e w8 ⟨rfl, S8, g8, hR, q2, q3⟩
        rw [show max (z : Int) 0 = (z : Int) by omega] at hR
        have HP := hid (HP.out.snd' hR q2 q3)
        skip
        clear hR q2 q3
        obtain ⟨-, -, z0, -⟩ := HC.out _ _ _ _ _ _ _ HP.out
        have hcc := ckClean_at HP.out.two.disk (HP.out.row HD.out (S' := fun k => k = d ∨ k = m) (fun k hk => by have := HP.out.lo; rcases hk with rfl | rfl; exact this.1; exact this.2.1)) x0
        have hcr := fun W (hP : Pr w wr S8 d m y g8 4000 (cleanS d5 x0 (z : Int) F).2.1 (cleanS d5 x0 (z : Int) F).2.2 (z : Int) F W) => refClean_at hP.two.ref (hP.row HD.out (S' := fun k => k = y ∨ k = g8) (fun k hk => by have := hP.lo; rcases hk with rfl | rfl; exact this.2.2.1; exact this.2.2.2)) x0
        have Hcr := hid hcr
        clear hcr
        generalize hcl : cleanS d5 x0 (z : Int) F = r at *
        have Hcl := hid hcl
        clear hcl
        obtain ⟨xc, lc, Fc⟩ := r
        go_wp2_with fail
        refine hcc.mono ?_
        clear hcc z0
        rintro e w9 ⟨rfl, hD, hK⟩
        have HP := hid (HP.out.fst hD hK)
        skip
        clear hD hK
        obtain ⟨-, -, z0, -⟩ := HC.out _ _ _ _ _ _ _ HP.out
        have hcc := Hcr.out w9 HP.out
        clear Hcr
        have hxx : (xc != xc) = false := by simp
        go_wp2_with fail
        refine hcc.mono ?_
        clear hcc z0
        rintro e w10 ⟨rfl, S10, g10, hR, q2, q3⟩
        have HP := hid (HP.out.snd' hR q2 q3)
        skip
        clear hR q2 q3
        go_wp2_with fail
        clear hxx
        refine (crash_at HP.out.two.disk 9999 (by decide)).mono ?_
        rintro e w11 ⟨rfl, hD, hK⟩
        have HP := hid (HP.out.fst hD hK)
        skip
        clear hD hK
        go_wp2_with fail
        refine (crash_ref HP.out.two.ref 9999 (by decide)).mono ?_
        rintro e w12 ⟨rfl, S12, g12, hR, q2, q3⟩
        have HP := hid (HP.out.snd' hR q2 q3)
        skip
        clear hR q2 q3
        generalize hGc : crashF 9999 Fc = Gc at *
        have HGc := hid hGc
        clear hGc
        have hl1 := list_at HP.out.two.disk
        have hl2 := fun W (hE : Ext w12 W) => list_ref (HP.out.two.ref.ext hE)
        have Hl2 := hid hl2
        clear hl2
        generalize Gc.map (fun x => x.1) = nl at *
        go_wp2_with fail
        refine hl1.mono ?_
        clear hl1
        rintro e w13 ⟨v1, rfl, hO1, hE⟩
        have HP := hid (HP.out.ext hE)
        skip
        obtain ⟨Av, cv, rfl, hr1⟩ := hO1.read
        have Hr1 := hid hr1
        have hcc := Hl2.out w13 hE
        clear hE hO1 hr1 Hl2
        generalize hln : nl.length = ln at *
        have Hln := hid hln
        clear hln
        go_wp2_with fail
        refine hcc.mono ?_
        clear hcc
        rintro e w14 ⟨v2, rfl, hO2, hE⟩
        have HP := hid (HP.out.ext hE)
        skip
        have Hr1 := hid (Hr1.out.grow hE)
        obtain ⟨Au, cu, rfl, hr2⟩ := hO2.read
        rw [Hln.out] at hr2 ⊢
        have hcc := texts_at Hr1.out hr2
        rw [decide_eq_true rfl] at hcc
        clear hE hO2 hr2
        go_wp2_with fail
        refine hcc.mono ?_
        clear hcc
        rintro e w15 ⟨rfl, hE⟩
        have HP := hid (HP.out.ext hE)
        skip
        clear hE Hr1
        obtain ⟨-, -, z0, -⟩ := HC.out _ _ _ _ _ _ _ HP.out
        have hcc := ckLoad_at HP.out.two.disk (slR_out (HP.out.row HD.out (S' := fun _ => False) (fun _ h => h.elim))) x0
        go_wp2_with fail
        refine hcc.mono ?_
        clear hcc z0
        rintro e w16 ⟨hE, hans⟩
        have HP := hid (HP.out.ext hE)
        skip
        clear hE
        rcases hans with ⟨-, rfl⟩ | ⟨h, -⟩
        rotate_left
        · exact absurd h Hne0.out
        rw [← Hme.out]
        go_wp2_with fail
        refine (statesNil_at _).mono ?_
        rintro e wx ⟨rfl, rfl⟩
        go_wp2_with fail
        refine (statesNil_at _).mono ?_
        rintro e wx ⟨rfl, rfl⟩
        go_wp2
        go_ret
        exact ⟨rfl, HP.out.below⟩
      · have H0 := hid h0
        have HX := hid (show Car w5.heap.size w6.heap.size w6 p6 L6 d m y g5 from ⟨HiX.of hHi6, ⟨Hg0.out.1, Hg0.out.2.1, Hg0.out.2.2.1⟩, .inl Hg0.out.2.2.2, Nat.le_refl _⟩)
        have Hv6 := hid hv6
        clear h0 hHi6 hE6 hv6
        -- Fuse, Clean, Crash of both; List, Texts: from w6 on (HP); KD, KR: what is kept at each call of the disk, of the reference's
        obtain ⟨-, -, -, z1⟩ := HC.out _ _ _ _ _ _ _ HP.out
        have hzb := Hzb.out
        go_wp2_with fail
        clear z1
        refine (fuse_at HP.out.two.disk (n := (z : Int)) (by omega)).mono ?_
        rintro e w7 ⟨rfl, hD, hK⟩
        rw [show max (z : Int) 0 = (z : Int) by omega] at hD
        have HP := hid (HP.out.fst hD hK)
        have HX := hid (HX.out.fst hK)
        clear hD hK
        obtain ⟨-, -, -, z1⟩ := HC.out _ _ _ _ _ _ _ HP.out
        go_wp2_with fail
        clear z1 hzb
        refine (fuse_ref HP.out.two.ref (z : Int) (by omega)).mono ?_
        rintro e w8 ⟨rfl, S8, g8, hR, q2, q3⟩
        rw [show max (z : Int) 0 = (z : Int) by omega] at hR
        have HP := hid (HP.out.snd' hR q2 q3)
        have HX := hid (HX.out.snd q2 q3)
        clear hR q2 q3
        obtain ⟨-, -, z0, -⟩ := HC.out _ _ _ _ _ _ _ HP.out
        have hcc := ckClean_at HP.out.two.disk (HP.out.row HD.out (S' := fun k => k = d ∨ k = m) (fun k hk => by have := HP.out.lo; rcases hk with rfl | rfl; exact this.1; exact this.2.1)) x0
        have hcr := fun W (hP : Pr w wr S8 d m y g8 4000 (cleanS d5 x0 (z : Int) F).2.1 (cleanS d5 x0 (z : Int) F).2.2 (z : Int) F W) => refClean_at hP.two.ref (hP.row HD.out (S' := fun k => k = y ∨ k = g8) (fun k hk => by have := hP.lo; rcases hk with rfl | rfl; exact this.2.2.1; exact this.2.2.2)) x0
        have Hcr := hid hcr
        clear hcr
        generalize hcl : cleanS d5 x0 (z : Int) F = r at *
        have Hcl := hid hcl
        clear hcl
        obtain ⟨xc, lc, Fc⟩ := r
        go_wp2_with fail
        refine hcc.mono ?_
        clear hcc z0
        rintro e w9 ⟨rfl, hD, hK⟩
        have HP := hid (HP.out.fst hD hK)
        have HX := hid (HX.out.fst hK)
        clear hD hK
        obtain ⟨-, -, z0, -⟩ := HC.out _ _ _ _ _ _ _ HP.out
        have hcc := Hcr.out w9 HP.out
        clear Hcr
        have hxx : (xc != xc) = false := by simp
        go_wp2_with fail
        refine hcc.mono ?_
        clear hcc z0
        rintro e w10 ⟨rfl, S10, g10, hR, q2, q3⟩
        have HP := hid (HP.out.snd' hR q2 q3)
        have HX := hid (HX.out.snd q2 q3)
        clear hR q2 q3
        go_wp2_with fail
        clear hxx
        refine (crash_at HP.out.two.disk 9999 (by decide)).mono ?_
        rintro e w11 ⟨rfl, hD, hK⟩
        have HP := hid (HP.out.fst hD hK)
        have HX := hid (HX.out.fst hK)
        clear hD hK
        go_wp2_with fail
        refine (crash_ref HP.out.two.ref 9999 (by decide)).mono ?_
        rintro e w12 ⟨rfl, S12, g12, hR, q2, q3⟩
        have HP := hid (HP.out.snd' hR q2 q3)
        have HX := hid (HX.out.snd q2 q3)
        clear hR q2 q3
        generalize hGc : crashF 9999 Fc = Gc at *
        have HGc := hid hGc
        clear hGc
        have hl1 := list_at HP.out.two.disk
        have hl2 := fun W (hE : Ext w12 W) => list_ref (HP.out.two.ref.ext hE)
        have Hl2 := hid hl2
        clear hl2
        generalize Gc.map (fun x => x.1) = nl at *
        go_wp2_with fail
        refine hl1.mono ?_
        clear hl1
        rintro e w13 ⟨v1, rfl, hO1, hE⟩
        have HP := hid (HP.out.ext hE)
        have HX := hid (HX.out.ext hE)
        obtain ⟨Av, cv, rfl, hr1⟩ := hO1.read
        have Hr1 := hid hr1
        have hcc := Hl2.out w13 hE
        clear hE hO1 hr1 Hl2
        generalize hln : nl.length = ln at *
        have Hln := hid hln
        clear hln
        go_wp2_with fail
        refine hcc.mono ?_
        clear hcc
        rintro e w14 ⟨v2, rfl, hO2, hE⟩
        have HP := hid (HP.out.ext hE)
        have HX := hid (HX.out.ext hE)
        have Hr1 := hid (Hr1.out.grow hE)
        obtain ⟨Au, cu, rfl, hr2⟩ := hO2.read
        rw [Hln.out] at hr2 ⊢
        have hcc := texts_at Hr1.out hr2
        rw [decide_eq_true rfl] at hcc
        clear hE hO2 hr2
        go_wp2_with fail
        refine hcc.mono ?_
        clear hcc
        rintro e w15 ⟨rfl, hE⟩
        have HP := hid (HP.out.ext hE)
        have HX := hid (HX.out.ext hE)
        clear hE Hr1
        obtain ⟨-, -, z0, -⟩ := HC.out _ _ _ _ _ _ _ HP.out
        have hcc := ckLoad_at HP.out.two.disk (slR_out (HP.out.row HD.out (S' := fun _ => False) (fun _ h => h.elim))) x0
        go_wp2_with fail
        refine hcc.mono ?_
        clear hcc z0
        rintro e w16 ⟨hE, hans⟩
        have HP := hid (HP.out.ext hE)
        have HX := hid (HX.out.ext hE)
        clear hE
        rcases hans with ⟨h, -⟩ | ⟨-, x16, p16, L16, S16, rfl, hv16, hO16, -⟩
        · exact absurd H0.out h
        have hcl : loadR d5 Gc x0 = loadR d5 F x0 := by rw [← HGc.out]; exact clean_load (keep := 9999) Hcl.out HF.out (by decide)
        rw [hcl, ← Hv6.out] at hv16
        simp only [Prod.mk.injEq] at hv16
        obtain ⟨rfl, hv⟩ := hv16
        have hPF : PutFit (viewP L6) := by have := putFit_load (most := x0) H0.out HF.out; rw [← Hv6.out] at this; exact this
        obtain ⟨Sx, hSx, -⟩ := HX.out.hx.set
        have hs1 := states_at hSx hPF
        have Hs2 := hid (fun W (hE : Ext w16 W) => states_at ((hO16.ext hE).A) (show PutFit (viewP L16) by rw [hv]; exact hPF))
        rw [hv] at Hs2
        clear hv hPF hSx hcl hO16 Hv6
        generalize setB (viewP L6) = sb at *
        go_wp2_with fail
        refine hs1.mono ?_
        clear hs1
        rintro e w17 ⟨rfl, hE⟩
        have HP := hid (HP.out.ext hE)
        have hcc := Hs2.out w17 hE
        clear hE
        go_wp2_with fail
        refine hcc.mono ?_
        clear hcc
        rintro e w18 ⟨rfl, hE⟩
        have HP := hid (HP.out.ext hE)
        clear hE
        go_wp2
        go_ret
        exact ⟨rfl, HP.out.below⟩
    · have hm0 : (0 : Int) < (m1 : Int) := by omega
      have e2 := app_two (q := 4000) (f := ⟨D0, 0⟩) (bs := D1) (by rw [← Hl1.out]; omega) (by show ((D0.length + D1.length : Nat) : Int) ≤ 4000; rw [← Hl0.out, ← Hl1.out]; omega)
      have HF := hid (small_two (b := D0) (k := 0) (c := D1) (j := 0) (by rw [← Hl0.out]; exact h80) (by rw [← Hl1.out]; exact h81))
      have E2 := hid e2
      clear E1 e2
      go_wp2_with fail
      clear b1
      refine (append_at HP.out.two.disk nmN (by decide) A1 m1 c1 D1 Hl1.out (by omega) (HP.out.arg Hr1.out)).mono ?_
      rintro e w7 ⟨rfl, hD, hK⟩
      rw [E2.out.2, burn_none] at hD
      have HP := hid (HP.out.fst hD hK)
      clear hD hK
      obtain ⟨-, b1, -, -⟩ := HC.out _ _ _ _ _ _ _ HP.out
      go_wp2_with fail
      clear b1
      obtain ⟨g4, hg4⟩ : ∃ g, g = g5 := ⟨_, rfl⟩
      rw [← hg4] at HP
      clear hg4
      refine (append_ref HP.out.two.ref nmN (by decide) A1 m1 c1 D1 Hl1.out (by omega) (HP.out.arg Hr1.out)).mono ?_
      rintro e w5 ⟨rfl, S6, g5, hR, q2, q3⟩
      rw [E2.out.2, burn_none] at hR
      have HP := hid (HP.out.snd' hR q2 q3)
      clear hR q2 q3 E2
      generalize [(nmC, (⟨D0, 0⟩ : File)), (nmN, ⟨D1, 0⟩)] = F at *
      -- from w5 on: HP; HF the files are small
      obtain ⟨-, -, z0, -⟩ := HC.out _ _ _ _ _ _ _ HP.out
      have hcc := ckLoad_at HP.out.two.disk (slR_out (HP.out.row HD.out (S' := fun _ => False) (fun _ h => h.elim))) x0
      have Hg0 := hid (show d < w5.heap.size ∧ m < w5.heap.size ∧ y < w5.heap.size ∧ g5 < w5.heap.size from ⟨HP.out.two.disk.lt.1, HP.out.two.disk.lt.2, HP.out.two.ref.lt, HP.out.two.ref.glt⟩)
      go_wp2_with fail
      refine hcc.mono ?_
      clear hcc z0
      (try clear b1)
      rintro e w6 ⟨hE6, hans⟩
      have HP := hid (HP.out.ext hE6)
      rcases hans with ⟨hne, rfl⟩ | ⟨h0, x6, p6, L6, S6, rfl, hv6, -, hHi6⟩
      · have Hne0 := hid hne
        clear hne hE6
        obtain ⟨me, hme⟩ : ∃ me, me = defsE d5 := ⟨_, rfl⟩
        rw [← hme]
        have Hme := hid hme
        clear hme
        -- Fuse, Clean, Crash of both; List, Texts: from w6 on (HP); KD, KR: what is kept at each call of the disk, of the reference's
        obtain ⟨-, -, -, z1⟩ := HC.out _ _ _ _ _ _ _ HP.out
        have hzb := Hzb.out
        go_wp2_with fail
        clear z1
        refine (fuse_at HP.out.two.disk (n := (z : Int)) (by omega)).mono ?_
        rintro e w7 ⟨rfl, hD, hK⟩
        rw [show max (z : Int) 0 = (z : Int) by omega] at hD
        have HP := hid (HP.out.fst hD hK)
        skip
        clear hD hK
        obtain ⟨-, -, -, z1⟩ := HC.out _ _ _ _ _ _ _ HP.out
        go_wp2_with fail
        clear z1 hzb
        refine (fuse_ref HP.out.two.ref (z : Int) (by omega)).mono ?_
        rintro e w8 ⟨rfl, S8, g8, hR, q2, q3⟩
        rw [show max (z : Int) 0 = (z : Int) by omega] at hR
        have HP := hid (HP.out.snd' hR q2 q3)
        skip
        clear hR q2 q3
        obtain ⟨-, -, z0, -⟩ := HC.out _ _ _ _ _ _ _ HP.out
        have hcc := ckClean_at HP.out.two.disk (HP.out.row HD.out (S' := fun k => k = d ∨ k = m) (fun k hk => by have := HP.out.lo; rcases hk with rfl | rfl; exact this.1; exact this.2.1)) x0
        have hcr := fun W (hP : Pr w wr S8 d m y g8 4000 (cleanS d5 x0 (z : Int) F).2.1 (cleanS d5 x0 (z : Int) F).2.2 (z : Int) F W) => refClean_at hP.two.ref (hP.row HD.out (S' := fun k => k = y ∨ k = g8) (fun k hk => by have := hP.lo; rcases hk with rfl | rfl; exact this.2.2.1; exact this.2.2.2)) x0
        have Hcr := hid hcr
        clear hcr
        generalize hcl : cleanS d5 x0 (z : Int) F = r at *
        have Hcl := hid hcl
        clear hcl
        obtain ⟨xc, lc, Fc⟩ := r
        go_wp2_with fail
        refine hcc.mono ?_
        clear hcc z0
        rintro e w9 ⟨rfl, hD, hK⟩
        have HP := hid (HP.out.fst hD hK)
        skip
        clear hD hK
        obtain ⟨-, -, z0, -⟩ := HC.out _ _ _ _ _ _ _ HP.out
        have hcc := Hcr.out w9 HP.out
        clear Hcr
        have hxx : (xc != xc) = false := by simp
        go_wp2_with fail
        refine hcc.mono ?_
        clear hcc z0
        rintro e w10 ⟨rfl, S10, g10, hR, q2, q3⟩
        have HP := hid (HP.out.snd' hR q2 q3)
        skip
        clear hR q2 q3
        go_wp2_with fail
        clear hxx
        refine (crash_at HP.out.two.disk 9999 (by decide)).mono ?_
        rintro e w11 ⟨rfl, hD, hK⟩
        have HP := hid (HP.out.fst hD hK)
        skip
        clear hD hK
        go_wp2_with fail
        refine (crash_ref HP.out.two.ref 9999 (by decide)).mono ?_
        rintro e w12 ⟨rfl, S12, g12, hR, q2, q3⟩
        have HP := hid (HP.out.snd' hR q2 q3)
        skip
        clear hR q2 q3
        generalize hGc : crashF 9999 Fc = Gc at *
        have HGc := hid hGc
        clear hGc
        have hl1 := list_at HP.out.two.disk
        have hl2 := fun W (hE : Ext w12 W) => list_ref (HP.out.two.ref.ext hE)
        have Hl2 := hid hl2
        clear hl2
        generalize Gc.map (fun x => x.1) = nl at *
        go_wp2_with fail
        refine hl1.mono ?_
        clear hl1
        rintro e w13 ⟨v1, rfl, hO1, hE⟩
        have HP := hid (HP.out.ext hE)
        skip
        obtain ⟨Av, cv, rfl, hr1⟩ := hO1.read
        have Hr1 := hid hr1
        have hcc := Hl2.out w13 hE
        clear hE hO1 hr1 Hl2
        generalize hln : nl.length = ln at *
        have Hln := hid hln
        clear hln
        go_wp2_with fail
        refine hcc.mono ?_
        clear hcc
        rintro e w14 ⟨v2, rfl, hO2, hE⟩
        have HP := hid (HP.out.ext hE)
        skip
        have Hr1 := hid (Hr1.out.grow hE)
        obtain ⟨Au, cu, rfl, hr2⟩ := hO2.read
        rw [Hln.out] at hr2 ⊢
        have hcc := texts_at Hr1.out hr2
        rw [decide_eq_true rfl] at hcc
        clear hE hO2 hr2
        go_wp2_with fail
        refine hcc.mono ?_
        clear hcc
        rintro e w15 ⟨rfl, hE⟩
        have HP := hid (HP.out.ext hE)
        skip
        clear hE Hr1
        obtain ⟨-, -, z0, -⟩ := HC.out _ _ _ _ _ _ _ HP.out
        have hcc := ckLoad_at HP.out.two.disk (slR_out (HP.out.row HD.out (S' := fun _ => False) (fun _ h => h.elim))) x0
        go_wp2_with fail
        refine hcc.mono ?_
        clear hcc z0
        rintro e w16 ⟨hE, hans⟩
        have HP := hid (HP.out.ext hE)
        skip
        clear hE
        rcases hans with ⟨-, rfl⟩ | ⟨h, -⟩
        rotate_left
        · exact absurd h Hne0.out
        rw [← Hme.out]
        go_wp2_with fail
        refine (statesNil_at _).mono ?_
        rintro e wx ⟨rfl, rfl⟩
        go_wp2_with fail
        refine (statesNil_at _).mono ?_
        rintro e wx ⟨rfl, rfl⟩
        go_wp2
        go_ret
        exact ⟨rfl, HP.out.below⟩
      · have H0 := hid h0
        have HX := hid (show Car w5.heap.size w6.heap.size w6 p6 L6 d m y g5 from ⟨HiX.of hHi6, ⟨Hg0.out.1, Hg0.out.2.1, Hg0.out.2.2.1⟩, .inl Hg0.out.2.2.2, Nat.le_refl _⟩)
        have Hv6 := hid hv6
        clear h0 hHi6 hE6 hv6
        -- Fuse, Clean, Crash of both; List, Texts: from w6 on (HP); KD, KR: what is kept at each call of the disk, of the reference's
        obtain ⟨-, -, -, z1⟩ := HC.out _ _ _ _ _ _ _ HP.out
        have hzb := Hzb.out
        go_wp2_with fail
        clear z1
        refine (fuse_at HP.out.two.disk (n := (z : Int)) (by omega)).mono ?_
        rintro e w7 ⟨rfl, hD, hK⟩
        rw [show max (z : Int) 0 = (z : Int) by omega] at hD
        have HP := hid (HP.out.fst hD hK)
        have HX := hid (HX.out.fst hK)
        clear hD hK
        obtain ⟨-, -, -, z1⟩ := HC.out _ _ _ _ _ _ _ HP.out
        go_wp2_with fail
        clear z1 hzb
        refine (fuse_ref HP.out.two.ref (z : Int) (by omega)).mono ?_
        rintro e w8 ⟨rfl, S8, g8, hR, q2, q3⟩
        rw [show max (z : Int) 0 = (z : Int) by omega] at hR
        have HP := hid (HP.out.snd' hR q2 q3)
        have HX := hid (HX.out.snd q2 q3)
        clear hR q2 q3
        obtain ⟨-, -, z0, -⟩ := HC.out _ _ _ _ _ _ _ HP.out
        have hcc := ckClean_at HP.out.two.disk (HP.out.row HD.out (S' := fun k => k = d ∨ k = m) (fun k hk => by have := HP.out.lo; rcases hk with rfl | rfl; exact this.1; exact this.2.1)) x0
        have hcr := fun W (hP : Pr w wr S8 d m y g8 4000 (cleanS d5 x0 (z : Int) F).2.1 (cleanS d5 x0 (z : Int) F).2.2 (z : Int) F W) => refClean_at hP.two.ref (hP.row HD.out (S' := fun k => k = y ∨ k = g8) (fun k hk => by have := hP.lo; rcases hk with rfl | rfl; exact this.2.2.1; exact this.2.2.2)) x0
        have Hcr := hid hcr
        clear hcr
        generalize hcl : cleanS d5 x0 (z : Int) F = r at *
        have Hcl := hid hcl
        clear hcl
        obtain ⟨xc, lc, Fc⟩ := r
        go_wp2_with fail
        refine hcc.mono ?_
        clear hcc z0
        rintro e w9 ⟨rfl, hD, hK⟩
        have HP := hid (HP.out.fst hD hK)
        have HX := hid (HX.out.fst hK)
        clear hD hK
        obtain ⟨-, -, z0, -⟩ := HC.out _ _ _ _ _ _ _ HP.out
        have hcc := Hcr.out w9 HP.out
        clear Hcr
        have hxx : (xc != xc) = false := by simp
        go_wp2_with fail
        refine hcc.mono ?_
        clear hcc z0
        rintro e w10 ⟨rfl, S10, g10, hR, q2, q3⟩
        have HP := hid (HP.out.snd' hR q2 q3)
        have HX := hid (HX.out.snd q2 q3)
        clear hR q2 q3
        go_wp2_with fail
        clear hxx
        refine (crash_at HP.out.two.disk 9999 (by decide)).mono ?_
        rintro e w11 ⟨rfl, hD, hK⟩
        have HP := hid (HP.out.fst hD hK)
        have HX := hid (HX.out.fst hK)
        clear hD hK
        go_wp2_with fail
        refine (crash_ref HP.out.two.ref 9999 (by decide)).mono ?_
        rintro e w12 ⟨rfl, S12, g12, hR, q2, q3⟩
        have HP := hid (HP.out.snd' hR q2 q3)
        have HX := hid (HX.out.snd q2 q3)
        clear hR q2 q3
        generalize hGc : crashF 9999 Fc = Gc at *
        have HGc := hid hGc
        clear hGc
        have hl1 := list_at HP.out.two.disk
        have hl2 := fun W (hE : Ext w12 W) => list_ref (HP.out.two.ref.ext hE)
        have Hl2 := hid hl2
        clear hl2
        generalize Gc.map (fun x => x.1) = nl at *
        go_wp2_with fail
        refine hl1.mono ?_
        clear hl1
        rintro e w13 ⟨v1, rfl, hO1, hE⟩
        have HP := hid (HP.out.ext hE)
        have HX := hid (HX.out.ext hE)
        obtain ⟨Av, cv, rfl, hr1⟩ := hO1.read
        have Hr1 := hid hr1
        have hcc := Hl2.out w13 hE
        clear hE hO1 hr1 Hl2
        generalize hln : nl.length = ln at *
        have Hln := hid hln
        clear hln
        go_wp2_with fail
        refine hcc.mono ?_
        clear hcc
        rintro e w14 ⟨v2, rfl, hO2, hE⟩
        have HP := hid (HP.out.ext hE)
        have HX := hid (HX.out.ext hE)
        have Hr1 := hid (Hr1.out.grow hE)
        obtain ⟨Au, cu, rfl, hr2⟩ := hO2.read
        rw [Hln.out] at hr2 ⊢
        have hcc := texts_at Hr1.out hr2
        rw [decide_eq_true rfl] at hcc
        clear hE hO2 hr2
        go_wp2_with fail
        refine hcc.mono ?_
        clear hcc
        rintro e w15 ⟨rfl, hE⟩
        have HP := hid (HP.out.ext hE)
        have HX := hid (HX.out.ext hE)
        clear hE Hr1
        obtain ⟨-, -, z0, -⟩ := HC.out _ _ _ _ _ _ _ HP.out
        have hcc := ckLoad_at HP.out.two.disk (slR_out (HP.out.row HD.out (S' := fun _ => False) (fun _ h => h.elim))) x0
        go_wp2_with fail
        refine hcc.mono ?_
        clear hcc z0
        rintro e w16 ⟨hE, hans⟩
        have HP := hid (HP.out.ext hE)
        have HX := hid (HX.out.ext hE)
        clear hE
        rcases hans with ⟨h, -⟩ | ⟨-, x16, p16, L16, S16, rfl, hv16, hO16, -⟩
        · exact absurd H0.out h
        have hcl : loadR d5 Gc x0 = loadR d5 F x0 := by rw [← HGc.out]; exact clean_load (keep := 9999) Hcl.out HF.out (by decide)
        rw [hcl, ← Hv6.out] at hv16
        simp only [Prod.mk.injEq] at hv16
        obtain ⟨rfl, hv⟩ := hv16
        have hPF : PutFit (viewP L6) := by have := putFit_load (most := x0) H0.out HF.out; rw [← Hv6.out] at this; exact this
        obtain ⟨Sx, hSx, -⟩ := HX.out.hx.set
        have hs1 := states_at hSx hPF
        have Hs2 := hid (fun W (hE : Ext w16 W) => states_at ((hO16.ext hE).A) (show PutFit (viewP L16) by rw [hv]; exact hPF))
        rw [hv] at Hs2
        clear hv hPF hSx hcl hO16 Hv6
        generalize setB (viewP L6) = sb at *
        go_wp2_with fail
        refine hs1.mono ?_
        clear hs1
        rintro e w17 ⟨rfl, hE⟩
        have HP := hid (HP.out.ext hE)
        have hcc := Hs2.out w17 hE
        clear hE
        go_wp2_with fail
        refine hcc.mono ?_
        clear hcc
        rintro e w18 ⟨rfl, hE⟩
        have HP := hid (HP.out.ext hE)
        clear hE
        go_wp2
        go_ret
        exact ⟨rfl, HP.out.below⟩
end Go.Proofs.YtakebdeldndaaaaGreatDoor
