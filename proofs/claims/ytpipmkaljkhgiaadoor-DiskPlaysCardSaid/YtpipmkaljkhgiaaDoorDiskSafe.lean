/- The walk of DiskSafe. -/
import Derived.Test.YtpipmkaljkhgiaaDoorOps
import Derived.Test.YtpipmkaljkhgiaaDoorDiskNames
namespace Go.Proofs.YtpipmkaljkhgiaaDoor
open Go Go.RowKit
set_option linter.unusedSimpArgs false
set_option linter.unusedVariables false

/-- A burnt fuse: nothing changes. -/
theorem burnt {k : Int} (h : 0 ≤ k ∧ k < 7) (q : Int) (F : Files) (n : Int) (nm to b : List UInt8) : doF k q 0 F n nm to b = F ∧ doL k 0 = 0 := by
  constructor
  · unfold doF
    by_cases h3 : k = 3
    · rw [if_pos h3]; rfl
    rw [if_neg h3]
    by_cases h4 : k = 4
    · rw [if_pos h4]; unfold renF renEF; simp; split <;> rfl
    rw [if_neg h4]
    by_cases h5 : k = 5
    · rw [if_pos h5]; rfl
    rw [if_neg h5]
    by_cases h6 : k = 6
    · rw [if_pos h6]; rfl
    rw [if_neg h6, if_neg (by omega), if_neg (by omega)]
    rfl
  · unfold doL
    rw [if_neg (by omega), if_neg (by omega)]
    rfl
/-- The loop's claim: the disk is as it was. -/
def SafeInv (wb : World) (d m y : Nat) (F : Files) (w : World) : Prop :=
  ∃ S g l2 F2, Two w S d m y g 4000 0 F 0 l2 F2 ∧ (wb.heap.size ≤ d ∧ wb.heap.size ≤ m ∧ wb.heap.size ≤ y ∧ wb.heap.size ≤ g) ∧ Below wb.heap.size wb w ∧ ∀ j, S j → wb.heap.size ≤ j
theorem SafeInv.run {wb w : World} {d m y : Nat} {F : Files} (h : SafeInv wb d m y F w) : ∃ S, Run wb w S d m 4000 0 F := by
  obtain ⟨S, g, l2, F2, hT, ⟨h1, h2, -, -⟩, hB, ho⟩ := h
  exact ⟨S, hT.disk, hB, h1, h2, ho⟩
theorem SafeInv.next {wb w w' : World} {S : Nat → Prop} {d m y g : Nat} {F F2 : Files} {l2 : Int} (hb : (wb.heap.size ≤ d ∧ wb.heap.size ≤ m ∧ wb.heap.size ≤ y ∧ wb.heap.size ≤ g)) (hB : Below wb.heap.size wb w) (ho : ∀ j, S j → wb.heap.size ≤ j)
    (hA : After w S d m y g 4000 0 F 0 l2 F2 w') : SafeInv wb d m y F w' := by
  obtain ⟨S', g', hT, hS, hg⟩ := hA
  have hsz := hB.size
  refine ⟨S', g', l2, F2, hT, ⟨hb.1, hb.2.1, hb.2.2.1, by omega⟩, ⟨hS.os.trans hB.os, hS.tape.trans hB.tape, hS.output.trans hB.output, Nat.le_trans hB.size hS.size, fun k hk => (hS.block k (by omega) (by omega) (by omega) (by omega) (by omega)).trans (hB.block k hk)⟩, fun j hj => ?_⟩
  by_cases h : j < w.heap.size
  · exact ho j ((hS.same j h).1 hj)
  · omega
/-- Behind the making of the reference's disk. -/
theorem SafeInv.start {wb w w' : World} {S : Nat → Prop} {d m : Nat} {F : Files} (h : Run wb w S d m 4000 0 F) (hE : Ext w w') (hR : RefIs w' (fun k => S k ∨ k = w.heap.size) w.heap.size w.heap.size 0 (-1) []) : SafeInv wb d m w.heap.size F w' := by
  have hsz := h.below.size
  have hlt := h.is.lt
  obtain ⟨G, hG, hH⟩ := h.is.map
  have same : ∀ k, k < w.heap.size → ((S k ∨ k = w.heap.size) ↔ S k) := fun k hk => ⟨fun h => by rcases h with h | h; exact h; omega, .inl⟩
  have hD : DiskIs w' (fun k => S k ∨ k = w.heap.size) d m 4000 0 F :=
    ⟨h.is.str.ext hE, ⟨G, hG.ext hE, (hH.more same).kept (Kept2.of_ext (d := d) (m := m) hE) (.inl h.is.own) (.inl h.is.ownM)⟩, h.is.ne, .inl h.is.own, .inl h.is.ownM, hR.fresh, h.is.few, h.is.lr⟩
  exact ⟨_, w.heap.size, -1, [], ⟨hD, hR, by omega, by omega, by omega, by omega⟩, ⟨h.dl, h.ml, hsz, hsz⟩, below_then h.below h.below.size hE, fun j hj => by rcases hj with hj | hj; exact h.old j hj; omega⟩
/-- One call of a row of calls. -/
theorem ops_at {w : World} {A : Option Addr} {n c : Nat} {os : List OpV} (h : SlR ROp w (· < w.heap.size) A n c os) (k : Nat) (hk : k < n) :
    ∃ b o Ak ck, ∃ ov : OpV, A = some ⟨b, o, none⟩ ∧ b < w.heap.size ∧ os[k]? = some ov ∧ w.cell? ⟨b, o + k * 5, none⟩ = some (.int .i64 ov.kd) ∧ w.cell? ⟨b, o + k * 5 + 1, none⟩ = some (.int .i64 ov.n) ∧ w.cell? ⟨b, o + k * 5 + 2, none⟩ = some (.string (str ov.nm)) ∧ w.cell? ⟨b, o + k * 5 + 3, none⟩ = some (.string (str ov.to)) ∧ w.cell? ⟨b, o + k * 5 + 4, none⟩ = some (.slice Ak ov.b.length ck) ∧
      ov.b.length ≤ ck ∧ RB w Ak ov.b ∧ OpOk ov := by
  obtain ⟨hl, hc, hm, ds, hr, hA⟩ := h
  obtain ⟨d, hd, hget⟩ := hr.get k (by omega)
  obtain ⟨Ak, ck, rfl, h1, -, h3, hok⟩ := rop_rel hd
  rcases hA with h0 | ⟨b, o, rfl, hb, hv⟩
  · exfalso
    have := hget 0 _ rfl
    rw [h0] at this; cases this
  · have g := fun j v hj => hv _ v (hget j v hj)
    have e : ROp.size = 5 := rfl
    rw [e] at g
    have a0 := g 0 _ rfl
    have a1 := g 1 _ rfl
    have a2 := g 2 _ rfl
    have a3 := g 3 _ rfl
    have a4 := g 4 _ rfl
    simp only [← Nat.add_assoc, Nat.add_zero] at a0 a1 a2 a3 a4
    exact ⟨b, o, Ak, ck, os[k]'(by omega), rfl, hb, List.getElem?_eq_getElem (by omega), a0, a1, a2, a3, a4, h1, h3.rv, hok⟩
/-- Bytes that are older than the law's own memory. -/
theorem rs_old {wb w : World} {S : Nat → Prop} {A : Option Addr} {bs : List UInt8} (hr : RB wb A bs) (hB : Below wb.heap.size wb w) (ho : ∀ j, S j → wb.heap.size ≤ j) : RS w S A bs := by
  have h1 : RK wb (fun k => k < wb.heap.size) A (bvs bs) := RK.of_rv hr fun b o e hlt => hlt
  refine (h1.ext fun k hk => hB.block k hk).mono fun k hk => ⟨Nat.lt_of_lt_of_le hk hB.size, fun hs => ?_⟩
  have := ho k hs
  omega
theorem kind9 (c : Int) : 0 ≤ kindN c 9 ∧ kindN c 9 < 9 := by
  unfold kindN
  split <;> omega
theorem app_sync {q : Int} {X Y : List UInt8} (h1 : X.length + Y.length ≤ 65536) (h2 : ((X.length + Y.length : Nat) : Int) ≤ q) :
    appE q (-1) [(nA, ⟨X, X.length⟩)] nA Y = 0 ∧ appF q (-1) [(nA, ⟨X, X.length⟩)] nA Y = [(nA, ⟨X ++ Y, X.length⟩)] := app_one (f := ⟨X, X.length⟩) may_nA h1 h2
set_option maxRecDepth 100000 in
set_option maxHeartbeats 4000000 in
theorem diskSafe_in (A0 : Option Addr) (n0 c0 : Nat) (x : List UInt8) (A1 : Option Addr) (n1 c1 : Nat) (y : List UInt8) (keep : Int) (A : Option Addr) (n c : Nat) (os : List OpV) (w : World) (h0 : InB w A0 n0 c0 x) (h1 : InB w A1 n1 c1 y)
    (hk : -9223372036854775808 ≤ keep ∧ keep ≤ 9223372036854775807) (hos : SlR ROp w (· < w.heap.size) A n c os) :
    Calls Tryd.prog 6 #[.slice A0 n0 c0, .slice A1 n1 c1, .agg #[.int .i64 keep, .slice A n c]] w fun e w' => e = .returned (.bool true) ∧ Ext w w' := by
  have hstr : (⟨#[97]⟩ : ByteArray) = str nA := rfl
  obtain ⟨hX, hXc, hXr⟩ := h0.short
  obtain ⟨hY, hYc, hYr⟩ := h1.short
  have hc0 := h0.cap
  have hc1 := h1.cap
  have hs0 := fun w => short_at A0 n0 c0 w hc0
  have hs1 := fun w => short_at A1 n1 c1 w hc1
  clear h0 h1
  obtain ⟨N, hN⟩ : ∃ N, N = min n0 200 := ⟨_, rfl⟩
  obtain ⟨M, hM⟩ : ∃ M, M = min n1 200 := ⟨_, rfl⟩
  have hN200 : N ≤ 200 := by omega
  have hM200 : M ≤ 200 := by omega
  rw [← hN] at hX hXc hs0
  rw [← hM] at hY hYc hs1
  generalize x.take 200 = X at hX hXr
  generalize y.take 200 = Y at hY hYr
  have HX := hid hX; have HY := hid hY
  have HE := hid (show Ext w (w.alloc (.cells #[.int .i64 keep, .slice A n c] 42)) from (Below.refl _ _).alloc (Nat.le_refl _) _)
  have Hbx := hid (heap_alloc_last w (.cells #[.int .i64 keep, .slice A n c] 42))
  have HXr := hid (hXr.below HE.out); have HYr := hid (hYr.below HE.out)
  have HOS := hid hos
  have Hkp := hid hk
  clear hX hY hXr hYr hN hM hc0 hc1 hos hk
  go_enter Tryd.func6, Tryd.ntmps6
  go_wp2_with fail
  generalize w.alloc (.cells #[.int .i64 keep, .slice A n c] 42) = wb at HE Hbx HXr HYr ⊢
  refine (shown_at _).mono ?_
  rintro e w1 ⟨rfl, hE⟩
  have HE1 := hid hE; clear hE
  go_wp2_with fail
  refine (run_new HE1.out 4000).mono ?_
  rintro e w2 ⟨d, m, rfl, hR⟩
  rw [show max (4000 : Int) 0 = 4000 by decide] at hR
  have HR := hid hR; clear hR HE1
  go_wp2_with fail
  refine (hs0 _).mono ?_
  rintro e w' ⟨rfl, rfl⟩
  go_wp2_with fail
  refine (hs1 _).mono ?_
  rintro e w' ⟨rfl, rfl⟩
  clear hs0 hs1
  go_wp2_with fail
  have e1 := app_none (q := 4000) (nm := nA) (bs := X) may_nA (by have := HX.out; omega) (by have := HX.out; omega)
  refine (HR.out.append nA (by decide) A0 N c0 X HX.out (by omega) (HR.out.arg HXr.out)).mono ?_
  rintro e w3 ⟨rfl, hR, -⟩
  rw [e1.2, burn_none] at hR
  rw [e1.1]
  have HR3 := hid hR; clear hR HR e1
  go_wp2_with fail
  refine (HR3.out.sync nA (by decide)).mono ?_
  rintro e w4 ⟨rfl, hR, -⟩
  rw [burn_none, sync_one] at hR
  rw [known_one]
  have HR4 := hid hR; clear hR HR3
  go_wp2_with fail
  have e1 := app_sync (q := 4000) (X := X) (Y := Y) (by have := HX.out; have := HY.out; omega) (by have := HX.out; have := HY.out; omega)
  refine (HR4.out.append nA (by decide) A1 M c1 Y HY.out (by omega) (HR4.out.arg HYr.out)).mono ?_
  rintro e w5 ⟨rfl, hR, -⟩
  rw [e1.2, burn_none] at hR
  rw [e1.1]
  have HR5 := hid hR; clear hR HR4 e1
  go_wp2_with fail
  refine (HR5.out.fuse 0 (by decide)).mono ?_
  rintro e w6 ⟨rfl, hR, -⟩
  rw [show max (0 : Int) 0 = 0 by decide] at hR
  have HR6 := hid hR; clear hR HR5
  go_wp2_with fail
  refine (refNew_at 0 w6 _ HR6.out.is.fresh).mono ?_
  rintro e w7 ⟨rfl, hRf, hE⟩
  rw [show max (0 : Int) 0 = 0 by decide] at hRf
  have HI7 := hid (SafeInv.start HR6.out hE hRf)
  obtain ⟨yy, hyy⟩ : ∃ yy, yy = w6.heap.size := ⟨_, rfl⟩
  rw [← hyy] at HI7 ⊢
  clear hRf hE HR6 hyy
  go_wp2_with fail
  have HMax := hid (run_max0 keep ((max keep 0).toNat : Int) (by omega))
  obtain ⟨kp, hkp⟩ : ∃ kp, kp = (max keep 0).toNat := ⟨_, rfl⟩
  rw [← hkp] at HMax
  obtain ⟨kk, hkk⟩ : ∃ kk, kk = min kp M := ⟨_, rfl⟩
  have hkM : kk ≤ M := by omega
  have HMin := hid (run_min2 (kp : Int) (M : Int) (kk : Int) (by omega))
  have HYKl := hid (show (Y.take kk).length = kk by rw [List.length_take]; have := HY.out; omega)
  have HYKr := hid (HYr.out.take kk)
  obtain ⟨t, ht⟩ : ∃ t, t = N + kk := ⟨_, rfl⟩
  have HZl := hid (show (X ++ Y.take kk).length = t by rw [List.length_append, HYKl.out, ← HX.out, ht])
  have Hc1 := hid (show crash1 keep ⟨X ++ Y, X.length⟩ = ⟨X ++ Y.take kk, t⟩ by
    have e : crashN keep ⟨X ++ Y, X.length⟩ = X.length + kk := by
      unfold crashN
      simp only [List.length_append, ← hkp]
      have := HY.out; omega
    unfold crash1
    rw [e]
    simp only [List.take_length_add_append]
    rw [ht, HX.out])
  have Hc2 := hid (show crash1 0 ⟨X ++ Y.take kk, t⟩ = ⟨X ++ Y.take kk, t⟩ by
    have e : crashN 0 ⟨X ++ Y.take kk, t⟩ = t := by unfold crashN; simp
    unfold crash1
    rw [e, List.take_of_length_le (by show (X ++ Y.take kk).length ≤ t; rw [HZl.out]; exact Nat.le_refl _)])
  generalize Y.take kk = YK at HYKl HYKr HZl Hc1 Hc2
  clear hkp hkk ht
  go_loopw [10] (fun i wr => ∃ k : Nat, k ≤ n ∧ k ≤ 20 ∧ i = .int .i64 (k : Int) ∧ Hid (SafeInv wb d m yy [(nA, ⟨X ++ Y, X.length⟩)] wr)) (fun i _ => 20 - (intOf i).toNat)
  case atStart => exact ⟨0, by omega, by omega, rfl, HI7⟩
  case round =>
    obtain ⟨k, hkn, hk20, rfl, HI⟩ := hrel
    obtain ⟨S, g, l2, F2, hT, hb4, hB, ho⟩ := HI.out
    have hwb := HE.out.size
    have hbw := (Array.getElem?_eq_some_iff.1 Hbx.out).1
    have hbk := (hB.block w.heap.size hbw).trans Hbx.out
    have b1 : wr.cell? ⟨w.heap.size, 1, none⟩ = some (.slice A n c) := by rw [cell_of_row _ _ _ _ _ _ hbk]; rfl
    have HT := hid hT; have HB := hid hB; have Ho := hid ho; have Hb4 := hid hb4
    clear hT hB ho hb4 hbk
    by_cases hlt : k < n ∧ k < 20
    · obtain ⟨hlt1, hlt2⟩ := hlt
      obtain ⟨b, o, Ak, ck, ov, rfl, hbl, hget, a0, a1, a2, a3, a4, hck, hrb, hok⟩ := ops_at HOS.out k hlt1
      have hE2 : ∀ j u, w.cell? ⟨b, j, none⟩ = some u → wr.cell? ⟨b, j, none⟩ = some u := fun j u h => (World.cell?_of_block (a := ⟨b, j, none⟩) ((HB.out.block b (by omega)).trans (HE.out.block b hbl))).trans h
      have a0' := hE2 _ _ a0
      have a1' := hE2 _ _ a1
      have a2' := hE2 _ _ a2
      have a3' := hE2 _ _ a3
      have a4' := hE2 _ _ a4
      have hRS := hid (rs_old (S := S) (hrb.below HE.out) HB.out Ho.out)
      clear a0 a1 a2 a3 a4 hE2 hrb hget
      obtain ⟨kd, n1, nm, to, bs⟩ := ov
      have Hok := hid hok
      clear hok
      simp only at a0' a1' a2' a3' a4' hck hRS
      obtain ⟨lb, hlb⟩ : ∃ lb, lb = bs.length := ⟨_, rfl⟩
      rw [← hlb] at a4' hck
      have Hlb := hid hlb
      clear hlb
      have hk1 : (k : Int) < (n : Int) := by omega
      have hk2 : (k : Int) < 20 := by omega
      have hk00 : ¬ ((k : Int) < 0) := by omega
      have hk0 : (0 : Int) ≤ (k : Int) := by omega
      go_wp2_with fail
      refine (kind_at kd 9 wr Hok.out.kd (by omega)).mono ?_
      rintro e w' ⟨rfl, rfl⟩
      have hk9 := kind9 kd
      obtain ⟨k2, hk2'⟩ : ∃ k2, k2 = kindN kd 9 := ⟨_, rfl⟩
      rw [← hk2'] at hk9 ⊢
      have Hk2 := hid hk2'
      clear hk2'
      by_cases h7 : k2 < 7
      · go_wp2_with fail
        refine (does_at HT.out kd n1 nm to Ak lb ck bs Hok.out.kd Hok.out.n.2 Hok.out.nm Hok.out.to Hlb.out hck hRS.out).mono ?_
        rintro e w7 ⟨rfl, hA⟩
        rw [← Hk2.out, (burnt ⟨hk9.1, h7⟩ 4000 _ n1 nm to bs).1, (burnt ⟨hk9.1, h7⟩ 4000 [] n1 nm to bs).2] at hA
        have HN := hid (SafeInv.next Hb4.out HB.out Ho.out hA)
        clear hA
        go_wp2_with fail
        go_roundw
        case rel => exact ⟨k + 1, by omega, by omega, by go_num, HN⟩
        case measure => simp [intOf]; omega
      · go_wp2_with fail
        go_roundw
        case rel => exact ⟨k + 1, by omega, by omega, by go_num, HI⟩
        case measure => simp [intOf]; omega
    · have Hrun := HI.out.run
      clear HT HB Ho Hb4 HI
      obtain ⟨S2, hR⟩ := Hrun
      have HR8 := hid hR
      clear hR
      have hx : ¬ ((k : Int) < (n : Int)) ∨ ((k : Int) < (n : Int) ∧ ¬ ((k : Int) < 20)) := by omega
      clear hlt
      rcases hx with hx | ⟨hx1, hx2⟩
      · go_wp2_with fail
        clear hx b1
        refine HR8.out.used.mono ?_
        rintro e w9 ⟨rfl, -, hR⟩
        rw [show ((usedF [(nA, ⟨X ++ Y, X.length⟩)] : Nat) : Int) = (N : Int) + (M : Int) by have := HX.out; have := HY.out; simp [usedF]; omega]
        have HR9 := hid hR; clear hR HR8
        go_wp2_with fail
        refine (HR9.out.sync nA (by decide)).mono ?_
        rintro e w10 ⟨rfl, hR, -⟩
        rw [show burnL 0 = 0 from rfl, show syncF 0 [(nA, ⟨X ++ Y, X.length⟩)] nA = [(nA, ⟨X ++ Y, X.length⟩)] from rfl] at hR
        rw [show knownEF 0 [(nA, ⟨X ++ Y, X.length⟩)] nA = 14 from rfl]
        have hbk := (hR.below.block w.heap.size (Array.getElem?_eq_some_iff.1 Hbx.out).1).trans Hbx.out
        have b0 : w10.cell? ⟨w.heap.size, 0, none⟩ = some (.int .i64 keep) := by rw [cell_of_row _ _ _ _ _ _ hbk]; rfl
        have HR10 := hid hR; clear hR HR9 hbk
        go_wp2_with fail
        clear b0
        refine (HR10.out.crash keep Hkp.out.2).mono ?_
        rintro e w11 ⟨rfl, hR, -⟩
        rw [crash_one, Hc1.out] at hR
        have hbk := (hR.below.block w.heap.size (Array.getElem?_eq_some_iff.1 Hbx.out).1).trans Hbx.out
        have b0 : w11.cell? ⟨w.heap.size, 0, none⟩ = some (.int .i64 keep) := by rw [cell_of_row _ _ _ _ _ _ hbk]; rfl
        have HR11 := hid hR; clear hR HR10 hbk
        have hmax := HMax.out
        have hmin := HMin.out
        go_wp2_with fail
        clear b0 hmax hmin
        refine (HR11.out.read nA (by decide)).mono ?_
        rintro e w12 ⟨v1, rfl, hO, hE, hR⟩
        rw [(read_one _ _).1, (read_one _ _).2] at *
        obtain ⟨A2, c2, rfl, hc2, hr⟩ := rs_own hO HR11.out.is.fresh
        rw [HZl.out]
        have Hr2 := hid hr
        have HR12 := hid hR; clear hR HR11 hO hE hr
        go_wp2_with fail
        refine (HR12.out.crash 0 (by decide)).mono ?_
        rintro e w13 ⟨rfl, hR, hK⟩
        rw [crash_one, Hc2.out] at hR
        have HR13 := hid hR
        have Hr23 := hid (RS.kept Hr2.out hK HR12.out.is.own HR12.out.is.ownM)
        clear hR HR12 hK Hr2
        go_wp2_with fail
        refine (HR13.out.read nA (by decide)).mono ?_
        rintro e w14 ⟨v1, rfl, hO, hE, hR⟩
        rw [(read_one _ _).1, (read_one _ _).2] at *
        obtain ⟨A3, c3, rfl, hc3, hr⟩ := rs_own hO HR13.out.is.fresh
        rw [HZl.out]
        have Hr3 := hid hr.rv
        have Hr24 := hid (RB.below (RK.rv Hr23.out) hE)
        have HR14 := hid hR; clear hR HR13 hO hE hr
        have HX14 := hid (HR14.out.arg_rb HXr.out)
        have HY14 := hid (HR14.out.arg_rb HYKr.out)
        go_wp2_with fail
        apply wp_drawn [isV _, isV _, isV _, isV _, isV _, isV _, isV _, isV _, isV _, isV _, isV _, isV _, isV _, isV _, isV _, isV (.string (str (X ++ YK))), isV _, isV _, isV _, isV _, isV _, isV _, isV _, isV _, isV _, isV _] (by kernel_rfl)
        · kernel_rfl
        · refine ⟨?ras0, ?ras1, ?ras2, ?ras3, ?ras4, ?ras5, ?ras6, ?ras7, ?ras8, ?ras9, ?ras10, ?ras11, ?ras12, ?ras13, ?ras14, ?ras15, ?ras16, ?ras17, ?ras18, ?ras19, ?ras20, ?ras21, ?ras22, ?ras23, ?ras24, ?ras25, trivial⟩
          case ras0 =>
            intro v W hE hd; simp only [Region.wanted, ↓reduceIte]; (try simp [deps, waitsOn, Region.binds, knowing, isV, ownsV, anyV] at hd); simp only [putAll, List.take_succ_cons, List.take_zero, List.drop_succ_cons, List.drop_zero, Act.put, List.setIfInBounds_toArray, List.set_cons_zero, List.set_cons_succ, Nat.zero_add, Nat.reduceAdd]; go_simp; exact ⟨Below.refl _ _, rfl⟩
          case ras1 =>
            intro v W hE hd; simp only [Region.wanted, ↓reduceIte]; (try simp [deps, waitsOn, Region.binds, knowing, isV, ownsV, anyV] at hd); simp only [putAll, List.take_succ_cons, List.take_zero, List.drop_succ_cons, List.drop_zero, Act.put, List.setIfInBounds_toArray, List.set_cons_zero, List.set_cons_succ, Nat.zero_add, Nat.reduceAdd]; go_simp; exact ⟨Below.refl _ _, rfl⟩
          case ras2 =>
            intro v W hE hd; simp only [Region.wanted, ↓reduceIte]; (try simp [deps, waitsOn, Region.binds, knowing, isV, ownsV, anyV] at hd); simp only [putAll, List.take_succ_cons, List.take_zero, List.drop_succ_cons, List.drop_zero, Act.put, List.setIfInBounds_toArray, List.set_cons_zero, List.set_cons_succ, Nat.zero_add, Nat.reduceAdd]; go_simp; exact ⟨Below.refl _ _, rfl⟩
          case ras3 =>
            intro v W hE hd; (try simp [deps, waitsOn, Region.binds, knowing, isV, ownsV, anyV] at hd); simp only [putAll, List.take_succ_cons, List.take_zero, List.drop_succ_cons, List.drop_zero, Act.put, List.setIfInBounds_toArray, List.set_cons_zero, List.set_cons_succ, Nat.zero_add, Nat.reduceAdd]; rw [if_pos (by simp [Region.wanted, yielded, hd])]; go_simp; exact ⟨Below.refl _ _, rfl⟩
          case ras4 =>
            intro v W hE hd; (try simp [deps, waitsOn, Region.binds, knowing, isV, ownsV, anyV] at hd); simp only [putAll, List.take_succ_cons, List.take_zero, List.drop_succ_cons, List.drop_zero, Act.put, List.setIfInBounds_toArray, List.set_cons_zero, List.set_cons_succ, Nat.zero_add, Nat.reduceAdd]; rw [if_pos (by simp [Region.wanted, yielded, hd])]; go_simp; exact ⟨Below.refl _ _, rfl⟩
          case ras5 =>
            intro v W hE hd; simp only [Region.wanted, ↓reduceIte]; (try simp [deps, waitsOn, Region.binds, knowing, isV, ownsV, anyV] at hd); simp only [putAll, List.take_succ_cons, List.take_zero, List.drop_succ_cons, List.drop_zero, Act.put, List.setIfInBounds_toArray, List.set_cons_zero, List.set_cons_succ, Nat.zero_add, Nat.reduceAdd]; go_simp; exact ⟨Below.refl _ _, rfl⟩
          case ras6 =>
            intro v W hE hd; simp only [Region.wanted, ↓reduceIte]; (try simp [deps, waitsOn, Region.binds, knowing, isV, ownsV, anyV] at hd); simp only [putAll, List.take_succ_cons, List.take_zero, List.drop_succ_cons, List.drop_zero, Act.put, List.setIfInBounds_toArray, List.set_cons_zero, List.set_cons_succ, Nat.zero_add, Nat.reduceAdd]; go_simp; exact ⟨Below.refl _ _, rfl⟩
          case ras7 =>
            intro v W hE hd; (try simp [deps, waitsOn, Region.binds, knowing, isV, ownsV, anyV] at hd); simp only [putAll, List.take_succ_cons, List.take_zero, List.drop_succ_cons, List.drop_zero, Act.put, List.setIfInBounds_toArray, List.set_cons_zero, List.set_cons_succ, Nat.zero_add, Nat.reduceAdd]; rw [if_pos (by simp [Region.wanted, yielded, hd])]; go_simp; exact ⟨Below.refl _ _, rfl⟩
          case ras8 =>
            intro v W hE hd; (try simp [deps, waitsOn, Region.binds, knowing, isV, ownsV, anyV] at hd); simp only [putAll, List.take_succ_cons, List.take_zero, List.drop_succ_cons, List.drop_zero, Act.put, List.setIfInBounds_toArray, List.set_cons_zero, List.set_cons_succ, Nat.zero_add, Nat.reduceAdd]; rw [if_pos (by simp [Region.wanted, yielded, hd])]
            have e1 := run_str (RB.below Hr24.out hE) c2
            rw [HZl.out] at e1
            go_simp
            exact ⟨Below.refl _ _, rfl⟩
          case ras9 =>
            intro v W hE hd; (try simp [deps, waitsOn, Region.binds, knowing, isV, ownsV, anyV] at hd); simp only [putAll, List.take_succ_cons, List.take_zero, List.drop_succ_cons, List.drop_zero, Act.put, List.setIfInBounds_toArray, List.set_cons_zero, List.set_cons_succ, Nat.zero_add, Nat.reduceAdd]; rw [if_pos (by simp [Region.wanted, yielded, hd])]; go_simp; exact ⟨Below.refl _ _, rfl⟩
          case ras10 =>
            intro v W hE hd; (try simp [deps, waitsOn, Region.binds, knowing, isV, ownsV, anyV] at hd); simp only [putAll, List.take_succ_cons, List.take_zero, List.drop_succ_cons, List.drop_zero, Act.put, List.setIfInBounds_toArray, List.set_cons_zero, List.set_cons_succ, Nat.zero_add, Nat.reduceAdd]; rw [if_pos (by simp [Region.wanted, yielded, hd])]
            have e1 := run_str (RB.below HX14.out hE) c0
            rw [← HX.out] at e1
            go_simp
            exact ⟨Below.refl _ _, rfl⟩
          case ras11 =>
            intro v W hE hd; (try simp [deps, waitsOn, Region.binds, knowing, isV, ownsV, anyV] at hd); simp only [putAll, List.take_succ_cons, List.take_zero, List.drop_succ_cons, List.drop_zero, Act.put, List.setIfInBounds_toArray, List.set_cons_zero, List.set_cons_succ, Nat.zero_add, Nat.reduceAdd]; rw [if_pos (by simp [Region.wanted, yielded, hd])]; go_simp; exact ⟨Below.refl _ _, rfl⟩
          case ras12 =>
            intro v W hE hd; (try simp [deps, waitsOn, Region.binds, knowing, isV, ownsV, anyV] at hd); simp only [putAll, List.take_succ_cons, List.take_zero, List.drop_succ_cons, List.drop_zero, Act.put, List.setIfInBounds_toArray, List.set_cons_zero, List.set_cons_succ, Nat.zero_add, Nat.reduceAdd]; rw [if_pos (by simp [Region.wanted, yielded, hd])]; go_simp; exact ⟨Below.refl _ _, rfl⟩
          case ras13 =>
            intro v W hE hd; (try simp [deps, waitsOn, Region.binds, knowing, isV, ownsV, anyV] at hd); simp only [putAll, List.take_succ_cons, List.take_zero, List.drop_succ_cons, List.drop_zero, Act.put, List.setIfInBounds_toArray, List.set_cons_zero, List.set_cons_succ, Nat.zero_add, Nat.reduceAdd]; rw [if_pos (by simp [Region.wanted, yielded, hd])]
            have e1 : (kk : Int) ≤ (c1 : Int) := by omega
            go_simp
            exact ⟨Below.refl _ _, rfl⟩
          case ras14 =>
            intro v W hE hd; (try simp [deps, waitsOn, Region.binds, knowing, isV, ownsV, anyV] at hd); simp only [putAll, List.take_succ_cons, List.take_zero, List.drop_succ_cons, List.drop_zero, Act.put, List.setIfInBounds_toArray, List.set_cons_zero, List.set_cons_succ, Nat.zero_add, Nat.reduceAdd]; rw [if_pos (by simp [Region.wanted, yielded, hd])]
            have e1 := run_str (RB.below HY14.out hE) c1
            rw [HYKl.out] at e1
            go_simp
            exact ⟨Below.refl _ _, rfl⟩
          case ras15 =>
            intro v W hE hd; (try simp [deps, waitsOn, Region.binds, knowing, isV, ownsV, anyV] at hd); simp only [putAll, List.take_succ_cons, List.take_zero, List.drop_succ_cons, List.drop_zero, Act.put, List.setIfInBounds_toArray, List.set_cons_zero, List.set_cons_succ, Nat.zero_add, Nat.reduceAdd]; rw [if_pos (by simp [Region.wanted, yielded, hd])]
            have hsz : ¬ (9223372036854775807 < (str X).size + (str YK).size) := by rw [str_size, str_size]; have := HX.out; have := HYKl.out; omega
            go_simp
            exact ⟨Below.refl _ _, by rw [← str_append]; rfl⟩
          case ras16 =>
            intro v W hE hd; (try simp [deps, waitsOn, Region.binds, knowing, isV, ownsV, anyV] at hd); simp only [putAll, List.take_succ_cons, List.take_zero, List.drop_succ_cons, List.drop_zero, Act.put, List.setIfInBounds_toArray, List.set_cons_zero, List.set_cons_succ, Nat.zero_add, Nat.reduceAdd]; rw [if_pos (by simp [Region.wanted, yielded, hd])]; go_simp; exact ⟨Below.refl _ _, rfl⟩
          case ras17 =>
            intro v W hE hd; simp only [Region.wanted, ↓reduceIte]; (try simp [deps, waitsOn, Region.binds, knowing, isV, ownsV, anyV] at hd); simp only [putAll, List.take_succ_cons, List.take_zero, List.drop_succ_cons, List.drop_zero, Act.put, List.setIfInBounds_toArray, List.set_cons_zero, List.set_cons_succ, Nat.zero_add, Nat.reduceAdd]; go_simp; exact ⟨Below.refl _ _, rfl⟩
          case ras18 =>
            intro v W hE hd; simp only [Region.wanted, ↓reduceIte]; (try simp [deps, waitsOn, Region.binds, knowing, isV, ownsV, anyV] at hd); simp only [putAll, List.take_succ_cons, List.take_zero, List.drop_succ_cons, List.drop_zero, Act.put, List.setIfInBounds_toArray, List.set_cons_zero, List.set_cons_succ, Nat.zero_add, Nat.reduceAdd]; go_simp; exact ⟨Below.refl _ _, rfl⟩
          case ras19 =>
            intro v W hE hd; (try simp [deps, waitsOn, Region.binds, knowing, isV, ownsV, anyV] at hd); simp only [putAll, List.take_succ_cons, List.take_zero, List.drop_succ_cons, List.drop_zero, Act.put, List.setIfInBounds_toArray, List.set_cons_zero, List.set_cons_succ, Nat.zero_add, Nat.reduceAdd]; rw [if_pos (by simp [Region.wanted, yielded, hd])]; go_simp; exact ⟨Below.refl _ _, rfl⟩
          case ras20 =>
            intro v W hE hd; (try simp [deps, waitsOn, Region.binds, knowing, isV, ownsV, anyV] at hd); simp only [putAll, List.take_succ_cons, List.take_zero, List.drop_succ_cons, List.drop_zero, Act.put, List.setIfInBounds_toArray, List.set_cons_zero, List.set_cons_succ, Nat.zero_add, Nat.reduceAdd]; rw [if_pos (by simp [Region.wanted, yielded, hd])]
            have e1 := run_str (RB.below Hr24.out hE) c2
            rw [HZl.out] at e1
            go_simp
            exact ⟨Below.refl _ _, rfl⟩
          case ras21 =>
            intro v W hE hd; (try simp [deps, waitsOn, Region.binds, knowing, isV, ownsV, anyV] at hd); simp only [putAll, List.take_succ_cons, List.take_zero, List.drop_succ_cons, List.drop_zero, Act.put, List.setIfInBounds_toArray, List.set_cons_zero, List.set_cons_succ, Nat.zero_add, Nat.reduceAdd]; rw [if_pos (by simp [Region.wanted, yielded, hd])]; go_simp; exact ⟨Below.refl _ _, rfl⟩
          case ras22 =>
            intro v W hE hd; (try simp [deps, waitsOn, Region.binds, knowing, isV, ownsV, anyV] at hd); simp only [putAll, List.take_succ_cons, List.take_zero, List.drop_succ_cons, List.drop_zero, Act.put, List.setIfInBounds_toArray, List.set_cons_zero, List.set_cons_succ, Nat.zero_add, Nat.reduceAdd]; rw [if_pos (by simp [Region.wanted, yielded, hd])]
            have e1 := run_str (RB.below Hr3.out hE) c3
            rw [HZl.out] at e1
            go_simp
            exact ⟨Below.refl _ _, rfl⟩
          case ras23 =>
            intro v W hE hd; (try simp [deps, waitsOn, Region.binds, knowing, isV, ownsV, anyV] at hd); simp only [putAll, List.take_succ_cons, List.take_zero, List.drop_succ_cons, List.drop_zero, Act.put, List.setIfInBounds_toArray, List.set_cons_zero, List.set_cons_succ, Nat.zero_add, Nat.reduceAdd]; rw [if_pos (by simp [Region.wanted, yielded, hd])]; go_simp; exact ⟨Below.refl _ _, rfl⟩
          case ras24 =>
            intro v W hE hd; simp only [Region.wanted, ↓reduceIte]; (try simp [deps, waitsOn, Region.binds, knowing, isV, ownsV, anyV] at hd); simp only [putAll, List.take_succ_cons, List.take_zero, List.drop_succ_cons, List.drop_zero, Act.put, List.setIfInBounds_toArray, List.set_cons_zero, List.set_cons_succ, Nat.zero_add, Nat.reduceAdd]; go_simp; exact ⟨Below.refl _ _, rfl⟩
          case ras25 =>
            intro v W hE hd; simp only [Region.wanted, ↓reduceIte]; (try simp [deps, waitsOn, Region.binds, knowing, isV, ownsV, anyV] at hd); simp only [putAll, List.take_succ_cons, List.take_zero, List.drop_succ_cons, List.drop_zero, Act.put, List.setIfInBounds_toArray, List.set_cons_zero, List.set_cons_succ, Nat.zero_add, Nat.reduceAdd]; go_simp; exact ⟨Below.refl _ _, rfl⟩
        · rintro v W15 hE ⟨-, -, -, -, -, -, -, -, -, -, -, -, -, -, -, -, -, -, -, -, -, -, -, -, -, e25, -⟩
          have e25 := (show v 25 = _ from e25)
          simp only [putAll, List.take_succ_cons, List.take_zero, List.drop_succ_cons, List.drop_zero, Act.put, List.setIfInBounds_toArray, List.set_cons_zero, List.set_cons_succ, Nat.zero_add, Nat.reduceAdd]
          rw [e25]
          go_wp2
          go_ret
          exact ⟨by simp, HE.out.trans (HR14.out.below.trans (hE.mono (HR14.out.below.size)) |>.mono HE.out.size)⟩
      · go_wp2_with fail
        clear hx1 hx2 b1
        refine HR8.out.used.mono ?_
        rintro e w9 ⟨rfl, -, hR⟩
        rw [show ((usedF [(nA, ⟨X ++ Y, X.length⟩)] : Nat) : Int) = (N : Int) + (M : Int) by have := HX.out; have := HY.out; simp [usedF]; omega]
        have HR9 := hid hR; clear hR HR8
        go_wp2_with fail
        refine (HR9.out.sync nA (by decide)).mono ?_
        rintro e w10 ⟨rfl, hR, -⟩
        rw [show burnL 0 = 0 from rfl, show syncF 0 [(nA, ⟨X ++ Y, X.length⟩)] nA = [(nA, ⟨X ++ Y, X.length⟩)] from rfl] at hR
        rw [show knownEF 0 [(nA, ⟨X ++ Y, X.length⟩)] nA = 14 from rfl]
        have hbk := (hR.below.block w.heap.size (Array.getElem?_eq_some_iff.1 Hbx.out).1).trans Hbx.out
        have b0 : w10.cell? ⟨w.heap.size, 0, none⟩ = some (.int .i64 keep) := by rw [cell_of_row _ _ _ _ _ _ hbk]; rfl
        have HR10 := hid hR; clear hR HR9 hbk
        go_wp2_with fail
        clear b0
        refine (HR10.out.crash keep Hkp.out.2).mono ?_
        rintro e w11 ⟨rfl, hR, -⟩
        rw [crash_one, Hc1.out] at hR
        have hbk := (hR.below.block w.heap.size (Array.getElem?_eq_some_iff.1 Hbx.out).1).trans Hbx.out
        have b0 : w11.cell? ⟨w.heap.size, 0, none⟩ = some (.int .i64 keep) := by rw [cell_of_row _ _ _ _ _ _ hbk]; rfl
        have HR11 := hid hR; clear hR HR10 hbk
        have hmax := HMax.out
        have hmin := HMin.out
        go_wp2_with fail
        clear b0 hmax hmin
        refine (HR11.out.read nA (by decide)).mono ?_
        rintro e w12 ⟨v1, rfl, hO, hE, hR⟩
        rw [(read_one _ _).1, (read_one _ _).2] at *
        obtain ⟨A2, c2, rfl, hc2, hr⟩ := rs_own hO HR11.out.is.fresh
        rw [HZl.out]
        have Hr2 := hid hr
        have HR12 := hid hR; clear hR HR11 hO hE hr
        go_wp2_with fail
        refine (HR12.out.crash 0 (by decide)).mono ?_
        rintro e w13 ⟨rfl, hR, hK⟩
        rw [crash_one, Hc2.out] at hR
        have HR13 := hid hR
        have Hr23 := hid (RS.kept Hr2.out hK HR12.out.is.own HR12.out.is.ownM)
        clear hR HR12 hK Hr2
        go_wp2_with fail
        refine (HR13.out.read nA (by decide)).mono ?_
        rintro e w14 ⟨v1, rfl, hO, hE, hR⟩
        rw [(read_one _ _).1, (read_one _ _).2] at *
        obtain ⟨A3, c3, rfl, hc3, hr⟩ := rs_own hO HR13.out.is.fresh
        rw [HZl.out]
        have Hr3 := hid hr.rv
        have Hr24 := hid (RB.below (RK.rv Hr23.out) hE)
        have HR14 := hid hR; clear hR HR13 hO hE hr
        have HX14 := hid (HR14.out.arg_rb HXr.out)
        have HY14 := hid (HR14.out.arg_rb HYKr.out)
        go_wp2_with fail
        apply wp_drawn [isV _, isV _, isV _, isV _, isV _, isV _, isV _, isV _, isV _, isV _, isV _, isV _, isV _, isV _, isV _, isV (.string (str (X ++ YK))), isV _, isV _, isV _, isV _, isV _, isV _, isV _, isV _, isV _, isV _] (by kernel_rfl)
        · kernel_rfl
        · refine ⟨?rbs0, ?rbs1, ?rbs2, ?rbs3, ?rbs4, ?rbs5, ?rbs6, ?rbs7, ?rbs8, ?rbs9, ?rbs10, ?rbs11, ?rbs12, ?rbs13, ?rbs14, ?rbs15, ?rbs16, ?rbs17, ?rbs18, ?rbs19, ?rbs20, ?rbs21, ?rbs22, ?rbs23, ?rbs24, ?rbs25, trivial⟩
          case rbs0 =>
            intro v W hE hd; simp only [Region.wanted, ↓reduceIte]; (try simp [deps, waitsOn, Region.binds, knowing, isV, ownsV, anyV] at hd); simp only [putAll, List.take_succ_cons, List.take_zero, List.drop_succ_cons, List.drop_zero, Act.put, List.setIfInBounds_toArray, List.set_cons_zero, List.set_cons_succ, Nat.zero_add, Nat.reduceAdd]; go_simp; exact ⟨Below.refl _ _, rfl⟩
          case rbs1 =>
            intro v W hE hd; simp only [Region.wanted, ↓reduceIte]; (try simp [deps, waitsOn, Region.binds, knowing, isV, ownsV, anyV] at hd); simp only [putAll, List.take_succ_cons, List.take_zero, List.drop_succ_cons, List.drop_zero, Act.put, List.setIfInBounds_toArray, List.set_cons_zero, List.set_cons_succ, Nat.zero_add, Nat.reduceAdd]; go_simp; exact ⟨Below.refl _ _, rfl⟩
          case rbs2 =>
            intro v W hE hd; simp only [Region.wanted, ↓reduceIte]; (try simp [deps, waitsOn, Region.binds, knowing, isV, ownsV, anyV] at hd); simp only [putAll, List.take_succ_cons, List.take_zero, List.drop_succ_cons, List.drop_zero, Act.put, List.setIfInBounds_toArray, List.set_cons_zero, List.set_cons_succ, Nat.zero_add, Nat.reduceAdd]; go_simp; exact ⟨Below.refl _ _, rfl⟩
          case rbs3 =>
            intro v W hE hd; (try simp [deps, waitsOn, Region.binds, knowing, isV, ownsV, anyV] at hd); simp only [putAll, List.take_succ_cons, List.take_zero, List.drop_succ_cons, List.drop_zero, Act.put, List.setIfInBounds_toArray, List.set_cons_zero, List.set_cons_succ, Nat.zero_add, Nat.reduceAdd]; rw [if_pos (by simp [Region.wanted, yielded, hd])]; go_simp; exact ⟨Below.refl _ _, rfl⟩
          case rbs4 =>
            intro v W hE hd; (try simp [deps, waitsOn, Region.binds, knowing, isV, ownsV, anyV] at hd); simp only [putAll, List.take_succ_cons, List.take_zero, List.drop_succ_cons, List.drop_zero, Act.put, List.setIfInBounds_toArray, List.set_cons_zero, List.set_cons_succ, Nat.zero_add, Nat.reduceAdd]; rw [if_pos (by simp [Region.wanted, yielded, hd])]; go_simp; exact ⟨Below.refl _ _, rfl⟩
          case rbs5 =>
            intro v W hE hd; simp only [Region.wanted, ↓reduceIte]; (try simp [deps, waitsOn, Region.binds, knowing, isV, ownsV, anyV] at hd); simp only [putAll, List.take_succ_cons, List.take_zero, List.drop_succ_cons, List.drop_zero, Act.put, List.setIfInBounds_toArray, List.set_cons_zero, List.set_cons_succ, Nat.zero_add, Nat.reduceAdd]; go_simp; exact ⟨Below.refl _ _, rfl⟩
          case rbs6 =>
            intro v W hE hd; simp only [Region.wanted, ↓reduceIte]; (try simp [deps, waitsOn, Region.binds, knowing, isV, ownsV, anyV] at hd); simp only [putAll, List.take_succ_cons, List.take_zero, List.drop_succ_cons, List.drop_zero, Act.put, List.setIfInBounds_toArray, List.set_cons_zero, List.set_cons_succ, Nat.zero_add, Nat.reduceAdd]; go_simp; exact ⟨Below.refl _ _, rfl⟩
          case rbs7 =>
            intro v W hE hd; (try simp [deps, waitsOn, Region.binds, knowing, isV, ownsV, anyV] at hd); simp only [putAll, List.take_succ_cons, List.take_zero, List.drop_succ_cons, List.drop_zero, Act.put, List.setIfInBounds_toArray, List.set_cons_zero, List.set_cons_succ, Nat.zero_add, Nat.reduceAdd]; rw [if_pos (by simp [Region.wanted, yielded, hd])]; go_simp; exact ⟨Below.refl _ _, rfl⟩
          case rbs8 =>
            intro v W hE hd; (try simp [deps, waitsOn, Region.binds, knowing, isV, ownsV, anyV] at hd); simp only [putAll, List.take_succ_cons, List.take_zero, List.drop_succ_cons, List.drop_zero, Act.put, List.setIfInBounds_toArray, List.set_cons_zero, List.set_cons_succ, Nat.zero_add, Nat.reduceAdd]; rw [if_pos (by simp [Region.wanted, yielded, hd])]
            have e1 := run_str (RB.below Hr24.out hE) c2
            rw [HZl.out] at e1
            go_simp
            exact ⟨Below.refl _ _, rfl⟩
          case rbs9 =>
            intro v W hE hd; (try simp [deps, waitsOn, Region.binds, knowing, isV, ownsV, anyV] at hd); simp only [putAll, List.take_succ_cons, List.take_zero, List.drop_succ_cons, List.drop_zero, Act.put, List.setIfInBounds_toArray, List.set_cons_zero, List.set_cons_succ, Nat.zero_add, Nat.reduceAdd]; rw [if_pos (by simp [Region.wanted, yielded, hd])]; go_simp; exact ⟨Below.refl _ _, rfl⟩
          case rbs10 =>
            intro v W hE hd; (try simp [deps, waitsOn, Region.binds, knowing, isV, ownsV, anyV] at hd); simp only [putAll, List.take_succ_cons, List.take_zero, List.drop_succ_cons, List.drop_zero, Act.put, List.setIfInBounds_toArray, List.set_cons_zero, List.set_cons_succ, Nat.zero_add, Nat.reduceAdd]; rw [if_pos (by simp [Region.wanted, yielded, hd])]
            have e1 := run_str (RB.below HX14.out hE) c0
            rw [← HX.out] at e1
            go_simp
            exact ⟨Below.refl _ _, rfl⟩
          case rbs11 =>
            intro v W hE hd; (try simp [deps, waitsOn, Region.binds, knowing, isV, ownsV, anyV] at hd); simp only [putAll, List.take_succ_cons, List.take_zero, List.drop_succ_cons, List.drop_zero, Act.put, List.setIfInBounds_toArray, List.set_cons_zero, List.set_cons_succ, Nat.zero_add, Nat.reduceAdd]; rw [if_pos (by simp [Region.wanted, yielded, hd])]; go_simp; exact ⟨Below.refl _ _, rfl⟩
          case rbs12 =>
            intro v W hE hd; (try simp [deps, waitsOn, Region.binds, knowing, isV, ownsV, anyV] at hd); simp only [putAll, List.take_succ_cons, List.take_zero, List.drop_succ_cons, List.drop_zero, Act.put, List.setIfInBounds_toArray, List.set_cons_zero, List.set_cons_succ, Nat.zero_add, Nat.reduceAdd]; rw [if_pos (by simp [Region.wanted, yielded, hd])]; go_simp; exact ⟨Below.refl _ _, rfl⟩
          case rbs13 =>
            intro v W hE hd; (try simp [deps, waitsOn, Region.binds, knowing, isV, ownsV, anyV] at hd); simp only [putAll, List.take_succ_cons, List.take_zero, List.drop_succ_cons, List.drop_zero, Act.put, List.setIfInBounds_toArray, List.set_cons_zero, List.set_cons_succ, Nat.zero_add, Nat.reduceAdd]; rw [if_pos (by simp [Region.wanted, yielded, hd])]
            have e1 : (kk : Int) ≤ (c1 : Int) := by omega
            go_simp
            exact ⟨Below.refl _ _, rfl⟩
          case rbs14 =>
            intro v W hE hd; (try simp [deps, waitsOn, Region.binds, knowing, isV, ownsV, anyV] at hd); simp only [putAll, List.take_succ_cons, List.take_zero, List.drop_succ_cons, List.drop_zero, Act.put, List.setIfInBounds_toArray, List.set_cons_zero, List.set_cons_succ, Nat.zero_add, Nat.reduceAdd]; rw [if_pos (by simp [Region.wanted, yielded, hd])]
            have e1 := run_str (RB.below HY14.out hE) c1
            rw [HYKl.out] at e1
            go_simp
            exact ⟨Below.refl _ _, rfl⟩
          case rbs15 =>
            intro v W hE hd; (try simp [deps, waitsOn, Region.binds, knowing, isV, ownsV, anyV] at hd); simp only [putAll, List.take_succ_cons, List.take_zero, List.drop_succ_cons, List.drop_zero, Act.put, List.setIfInBounds_toArray, List.set_cons_zero, List.set_cons_succ, Nat.zero_add, Nat.reduceAdd]; rw [if_pos (by simp [Region.wanted, yielded, hd])]
            have hsz : ¬ (9223372036854775807 < (str X).size + (str YK).size) := by rw [str_size, str_size]; have := HX.out; have := HYKl.out; omega
            go_simp
            exact ⟨Below.refl _ _, by rw [← str_append]; rfl⟩
          case rbs16 =>
            intro v W hE hd; (try simp [deps, waitsOn, Region.binds, knowing, isV, ownsV, anyV] at hd); simp only [putAll, List.take_succ_cons, List.take_zero, List.drop_succ_cons, List.drop_zero, Act.put, List.setIfInBounds_toArray, List.set_cons_zero, List.set_cons_succ, Nat.zero_add, Nat.reduceAdd]; rw [if_pos (by simp [Region.wanted, yielded, hd])]; go_simp; exact ⟨Below.refl _ _, rfl⟩
          case rbs17 =>
            intro v W hE hd; simp only [Region.wanted, ↓reduceIte]; (try simp [deps, waitsOn, Region.binds, knowing, isV, ownsV, anyV] at hd); simp only [putAll, List.take_succ_cons, List.take_zero, List.drop_succ_cons, List.drop_zero, Act.put, List.setIfInBounds_toArray, List.set_cons_zero, List.set_cons_succ, Nat.zero_add, Nat.reduceAdd]; go_simp; exact ⟨Below.refl _ _, rfl⟩
          case rbs18 =>
            intro v W hE hd; simp only [Region.wanted, ↓reduceIte]; (try simp [deps, waitsOn, Region.binds, knowing, isV, ownsV, anyV] at hd); simp only [putAll, List.take_succ_cons, List.take_zero, List.drop_succ_cons, List.drop_zero, Act.put, List.setIfInBounds_toArray, List.set_cons_zero, List.set_cons_succ, Nat.zero_add, Nat.reduceAdd]; go_simp; exact ⟨Below.refl _ _, rfl⟩
          case rbs19 =>
            intro v W hE hd; (try simp [deps, waitsOn, Region.binds, knowing, isV, ownsV, anyV] at hd); simp only [putAll, List.take_succ_cons, List.take_zero, List.drop_succ_cons, List.drop_zero, Act.put, List.setIfInBounds_toArray, List.set_cons_zero, List.set_cons_succ, Nat.zero_add, Nat.reduceAdd]; rw [if_pos (by simp [Region.wanted, yielded, hd])]; go_simp; exact ⟨Below.refl _ _, rfl⟩
          case rbs20 =>
            intro v W hE hd; (try simp [deps, waitsOn, Region.binds, knowing, isV, ownsV, anyV] at hd); simp only [putAll, List.take_succ_cons, List.take_zero, List.drop_succ_cons, List.drop_zero, Act.put, List.setIfInBounds_toArray, List.set_cons_zero, List.set_cons_succ, Nat.zero_add, Nat.reduceAdd]; rw [if_pos (by simp [Region.wanted, yielded, hd])]
            have e1 := run_str (RB.below Hr24.out hE) c2
            rw [HZl.out] at e1
            go_simp
            exact ⟨Below.refl _ _, rfl⟩
          case rbs21 =>
            intro v W hE hd; (try simp [deps, waitsOn, Region.binds, knowing, isV, ownsV, anyV] at hd); simp only [putAll, List.take_succ_cons, List.take_zero, List.drop_succ_cons, List.drop_zero, Act.put, List.setIfInBounds_toArray, List.set_cons_zero, List.set_cons_succ, Nat.zero_add, Nat.reduceAdd]; rw [if_pos (by simp [Region.wanted, yielded, hd])]; go_simp; exact ⟨Below.refl _ _, rfl⟩
          case rbs22 =>
            intro v W hE hd; (try simp [deps, waitsOn, Region.binds, knowing, isV, ownsV, anyV] at hd); simp only [putAll, List.take_succ_cons, List.take_zero, List.drop_succ_cons, List.drop_zero, Act.put, List.setIfInBounds_toArray, List.set_cons_zero, List.set_cons_succ, Nat.zero_add, Nat.reduceAdd]; rw [if_pos (by simp [Region.wanted, yielded, hd])]
            have e1 := run_str (RB.below Hr3.out hE) c3
            rw [HZl.out] at e1
            go_simp
            exact ⟨Below.refl _ _, rfl⟩
          case rbs23 =>
            intro v W hE hd; (try simp [deps, waitsOn, Region.binds, knowing, isV, ownsV, anyV] at hd); simp only [putAll, List.take_succ_cons, List.take_zero, List.drop_succ_cons, List.drop_zero, Act.put, List.setIfInBounds_toArray, List.set_cons_zero, List.set_cons_succ, Nat.zero_add, Nat.reduceAdd]; rw [if_pos (by simp [Region.wanted, yielded, hd])]; go_simp; exact ⟨Below.refl _ _, rfl⟩
          case rbs24 =>
            intro v W hE hd; simp only [Region.wanted, ↓reduceIte]; (try simp [deps, waitsOn, Region.binds, knowing, isV, ownsV, anyV] at hd); simp only [putAll, List.take_succ_cons, List.take_zero, List.drop_succ_cons, List.drop_zero, Act.put, List.setIfInBounds_toArray, List.set_cons_zero, List.set_cons_succ, Nat.zero_add, Nat.reduceAdd]; go_simp; exact ⟨Below.refl _ _, rfl⟩
          case rbs25 =>
            intro v W hE hd; simp only [Region.wanted, ↓reduceIte]; (try simp [deps, waitsOn, Region.binds, knowing, isV, ownsV, anyV] at hd); simp only [putAll, List.take_succ_cons, List.take_zero, List.drop_succ_cons, List.drop_zero, Act.put, List.setIfInBounds_toArray, List.set_cons_zero, List.set_cons_succ, Nat.zero_add, Nat.reduceAdd]; go_simp; exact ⟨Below.refl _ _, rfl⟩
        · rintro v W15 hE ⟨-, -, -, -, -, -, -, -, -, -, -, -, -, -, -, -, -, -, -, -, -, -, -, -, -, e25, -⟩
          have e25 := (show v 25 = _ from e25)
          simp only [putAll, List.take_succ_cons, List.take_zero, List.drop_succ_cons, List.drop_zero, Act.put, List.setIfInBounds_toArray, List.set_cons_zero, List.set_cons_succ, Nat.zero_add, Nat.reduceAdd]
          rw [e25]
          go_wp2
          go_ret
          exact ⟨by simp, HE.out.trans (HR14.out.below.trans (hE.mono (HR14.out.below.size)) |>.mono HE.out.size)⟩
end Go.Proofs.YtpipmkaljkhgiaaDoor
