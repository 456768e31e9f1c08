/- The walk of disk.Turn. -/
import Derived.Test.YtpipmkaljkhgiaaDoorDisk16
import Derived.Laws.BitsAllLaws
namespace Go.Proofs.YtpipmkaljkhgiaaDoor
open Go Go.RowKit
set_option linter.unusedSimpArgs false
set_option linter.unusedVariables false

def turnB (b : List UInt8) (k : Nat) : List UInt8 := b.set k (b.getD k 0 ^^^ 1)
def turnEF (F : Files) (nm : List UInt8) (t : Int) : Int := match atF F nm with
  | none => 11
  | some f => if t < 0 ∨ (f.b.length : Int) ≤ t then 1 else 0
def turnF (F : Files) (nm : List UInt8) (t : Int) : Files := match atF F nm with
  | none => F
  | some f => if t < 0 ∨ (f.b.length : Int) ≤ t then F else putF nm ⟨turnB f.b t.toNat, f.safe⟩ F
theorem xor_one (b : UInt8) : bits .xor .u8 (b.toNat : Int) 1 = ((b ^^^ 1).toNat : Int) := by
  have := u8_xor_nat b.toNat 1 b.toNat_lt (by decide)
  rw [UInt8.toNat_xor]
  exact this
set_option maxRecDepth 100000 in
set_option maxHeartbeats 2000000 in
theorem turn_at {w : World} {S : Nat → Prop} {d m : Nat} {q l : Int} {F : Files} (h : DiskIs w S d m q l F) (nm : List UInt8) (hn : nm.length ≤ 9223372036854775807) (t : Int) :
    Calls Tryd.prog 21 #[.pointer (some ⟨d, 0, none⟩), .string (str nm), .int .i64 t] w fun e w' => e = .returned (.int .i64 (turnEF F nm t)) ∧ DiskIs w' S d m q l (turnF F nm t) ∧ Kept2 d m w w' := by
  have H := hid h
  have hzf := zero_file
  unfold zfile at hzf
  obtain ⟨G, hG, hH⟩ := h.map
  have hlk := hG.look nm hn
  have c2 := h.str.files
  have hdlt := h.str.lt
  have hmlt := hG.lt
  have HG := hid hG
  have HH := hid hH
  clear h hG hH
  rcases HH.out.at_ nm with ⟨h1, h2⟩ | ⟨f, v, h1, h2, A, c, rfl, hc, hcm, hs, hb64, hr⟩
  · rw [h2] at hlk
    simp only [Option.getD_none, Option.isSome_none, zfile] at hlk
    have e1 := hid (show turnEF F nm t = 11 by unfold turnEF; rw [h1])
    have e2 := hid (show turnF F nm t = F by unfold turnF; rw [h1])
    have HE : Hid (Ext w (w.alloc (.cells #[.slice none 0 0, .int .i64 0] 60))) := (Below.refl _ _).alloc (Nat.le_refl _) _
    clear h1 h2
    go_enter Tryd.func21, Tryd.ntmps21
    go_wp2
    go_ret
    exact ⟨by rw [e1.out]; rfl, by rw [e2.out]; exact H.out.ext HE.out, Kept2.of_ext HE.out⟩
  rw [h2] at hlk
  simp only [Option.getD_some, Option.isSome_some] at hlk
  obtain ⟨n, hnn⟩ : ∃ n, n = f.b.length := ⟨_, rfl⟩
  have e1' : turnEF F nm t = if t < 0 ∨ (n : Int) ≤ t then 1 else 0 := by unfold turnEF; rw [h1, hnn]
  have e2' : turnF F nm t = if t < 0 ∨ (n : Int) ≤ t then F else putF nm ⟨turnB f.b t.toNat, f.safe⟩ F := by unfold turnF; rw [h1, hnn]
  rw [← hnn] at hlk hc hs hb64
  have Hnn := hid hnn
  have Hr := hid hr
  have H1 := hid h1
  have HE : Hid (Ext w (w.alloc (.cells #[.slice A n c, .int .i64 (f.safe : Int)] 60))) := (Below.refl _ _).alloc (Nat.le_refl _) _
  clear h1 h2 hnn hr
  by_cases hb : t < 0 ∨ (n : Int) ≤ t
  · have e1 := hid (e1'.trans (if_pos hb))
    have e2 := hid (e2'.trans (if_pos hb))
    clear e1' e2'
    by_cases ht : t < 0
    all_goals
      go_enter Tryd.func21, Tryd.ntmps21
      have ht2 : 0 ≤ t → (n : Int) ≤ t := by omega
      try have ht3 := ht2 (by omega)
      clear hb ht2
      go_wp2
      go_ret
      exact ⟨by rw [e1.out]; rfl, by rw [e2.out]; exact H.out.ext HE.out, Kept2.of_ext HE.out⟩
  have E1 := hid (e1'.trans (if_neg hb))
  have E2 := hid (e2'.trans (if_neg hb))
  clear e1' e2'
  obtain ⟨k, rfl⟩ := Int.eq_ofNat_of_zero_le (show 0 ≤ t by omega)
  have hk1 : ¬ ((k : Int) < 0) := by omega
  have hk0 : (0 : Int) ≤ (k : Int) := by omega
  have hk2 : ¬ ((n : Int) ≤ (k : Int)) := by omega
  have hkn : (k : Int) < (n : Int) := by omega
  clear hb
  go_enter Tryd.func21, Tryd.ntmps21
  go_wp2_with fail
  have hcc := sclone_at A n c f.b (w.alloc (.cells #[.slice A n c, .int .i64 (f.safe : Int)] 60)) Hnn.out (by omega) (Hr.out.rv.below HE.out)
  refine hcc.mono ?_; clear hcc
  rintro e w2 ⟨v, rfl, hO, hB⟩
  obtain ⟨g, c', e3, hg1, hg2, hc', hcell⟩ := OB.cellAt hO (by rw [← Hnn.out]; omega)
  rw [← Hnn.out] at e3 hc'
  subst e3
  have hbk := hcell k (by rw [← Hnn.out]; omega)
  have Hu := hid (show turnB f.b k = f.b.set k ((f.b[k]'(by rw [← Hnn.out]; omega)) ^^^ 1) by unfold turnB; rw [List.getD_eq_getElem?_getD, List.getElem?_eq_getElem (by rw [← Hnn.out]; omega)]; rfl)
  generalize f.b[k]'(by rw [← Hnn.out]; omega) = b at hbk Hu
  have hx := xor_one b
  generalize b ^^^ 1 = u at hx Hu
  obtain ⟨hck, hfk⟩ := hbk
  have HO := hid hO
  have HB := hid (Ext.trans' HE.out hB)
  have hzs : w.heap.size < g := by
    have : w.heap.size + 1 ≤ g := by simpa using hg1
    omega
  have Hbox := hid (show w2.heap[w.heap.size]? = some (.cells #[.slice A n c, .int .i64 (f.safe : Int)] 60) from (hB.block w.heap.size (by simp)).trans (heap_alloc_last w _))
  clear hO hB hcell hg1 hlk c2
  go_wp2_with fail
  have Hst := hid (OB.stored HO.out Hnn.out k u)
  have HD3 := hid ((H.out.str.ext HB.out).set ⟨g, k, none⟩ (.int .u8 (u.toNat : Int)) (by show d ≠ g; omega))
  have HM3 := hid ((HG.out.ext HB.out).set ⟨g, k, none⟩ (.int .u8 (u.toNat : Int)) (by show m ≠ g; omega))
  have HK3 := hid ((Kept2.of_ext (d := d) (m := m) HB.out).set ⟨g, k, none⟩ (.int .u8 (u.toNat : Int)) (by show w.heap.size ≤ g; omega))
  have hbox := (heap_setCell_other w2 ⟨g, k, none⟩ w.heap.size (.int .u8 (u.toNat : Int)) (by show w.heap.size ≠ g; omega)).trans Hbox.out
  have Hf1 := hid (show (w2.setCell ⟨g, k, none⟩ (.int .u8 (u.toNat : Int))).cell? ⟨w.heap.size, 1, none⟩ = some (.int .i64 (f.safe : Int)) by rw [cell_of_row _ _ _ _ _ _ hbox]; rfl)
  clear hbox hck hfk hx
  generalize w2.setCell ⟨g, k, none⟩ (.int .u8 (u.toNat : Int)) = w3 at Hst HD3 HM3 HK3 Hf1 ⊢
  rw [← Hu.out] at Hst
  apply wp_drawn_last 9 [isV _, isV _, isV _, isV _, isV _, isV _, isV _, isV _, isV _] (by decide) (by kernel_rfl)
  · kernel_rfl
  · kernel_rfl
  · refine ⟨?r8s0, ?r8s1, ?r8s2, ?r8s3, ?r8s4, ?r8s5, ?r8s6, ?r8s7, ?r8s8, trivial⟩
    case r8s0 =>
      intro v W hE hd; simp only [Region.wanted, ↓reduceIte]; (try simp [deps, waitsOn, Region.binds, knowing, isV, ownsV, anyV] at hd); simp only [putAll, List.take_succ_cons, List.take_zero, List.drop_succ_cons, List.drop_zero, Act.put, List.setIfInBounds_toArray, List.set_cons_zero, List.set_cons_succ, Nat.zero_add, Nat.reduceAdd]; go_simp; exact ⟨Below.refl _ _, rfl⟩
    case r8s1 =>
      intro v W hE hd; simp only [Region.wanted, ↓reduceIte]; (try simp [deps, waitsOn, Region.binds, knowing, isV, ownsV, anyV] at hd); simp only [putAll, List.take_succ_cons, List.take_zero, List.drop_succ_cons, List.drop_zero, Act.put, List.setIfInBounds_toArray, List.set_cons_zero, List.set_cons_succ, Nat.zero_add, Nat.reduceAdd]; go_simp; exact ⟨Below.refl _ _, rfl⟩
    case r8s2 =>
      intro v W hE hd; simp only [Region.wanted, ↓reduceIte]; (try simp [deps, waitsOn, Region.binds, knowing, isV, ownsV, anyV] at hd); simp only [putAll, List.take_succ_cons, List.take_zero, List.drop_succ_cons, List.drop_zero, Act.put, List.setIfInBounds_toArray, List.set_cons_zero, List.set_cons_succ, Nat.zero_add, Nat.reduceAdd]; go_simp; exact ⟨Below.refl _ _, rfl⟩
    case r8s3 =>
      intro v W hE hd; simp only [Region.wanted, ↓reduceIte]; (try simp [deps, waitsOn, Region.binds, knowing, isV, ownsV, anyV] at hd); simp only [putAll, List.take_succ_cons, List.take_zero, List.drop_succ_cons, List.drop_zero, Act.put, List.setIfInBounds_toArray, List.set_cons_zero, List.set_cons_succ, Nat.zero_add, Nat.reduceAdd]
      have e1 := cell_below hE HD3.out.files
      go_simp
      exact ⟨Below.refl _ _, rfl⟩
    case r8s4 =>
      intro v W hE hd; simp only [Region.wanted, ↓reduceIte]; (try simp [deps, waitsOn, Region.binds, knowing, isV, ownsV, anyV] at hd); simp only [putAll, List.take_succ_cons, List.take_zero, List.drop_succ_cons, List.drop_zero, Act.put, List.setIfInBounds_toArray, List.set_cons_zero, List.set_cons_succ, Nat.zero_add, Nat.reduceAdd]; go_simp; exact ⟨Below.refl _ _, rfl⟩
    case r8s5 =>
      intro v W hE hd; simp only [Region.wanted, ↓reduceIte]; (try simp [deps, waitsOn, Region.binds, knowing, isV, ownsV, anyV] at hd); simp only [putAll, List.take_succ_cons, List.take_zero, List.drop_succ_cons, List.drop_zero, Act.put, List.setIfInBounds_toArray, List.set_cons_zero, List.set_cons_succ, Nat.zero_add, Nat.reduceAdd]; go_simp; exact ⟨Below.refl _ _, rfl⟩
    case r8s6 =>
      intro v W hE hd; simp only [Region.wanted, ↓reduceIte]; (try simp [deps, waitsOn, Region.binds, knowing, isV, ownsV, anyV] at hd); simp only [putAll, List.take_succ_cons, List.take_zero, List.drop_succ_cons, List.drop_zero, Act.put, List.setIfInBounds_toArray, List.set_cons_zero, List.set_cons_succ, Nat.zero_add, Nat.reduceAdd]; go_simp; exact ⟨Below.refl _ _, rfl⟩
    case r8s7 =>
      intro v W hE hd; simp only [Region.wanted, ↓reduceIte]; (try simp [deps, waitsOn, Region.binds, knowing, isV, ownsV, anyV] at hd); simp only [putAll, List.take_succ_cons, List.take_zero, List.drop_succ_cons, List.drop_zero, Act.put, List.setIfInBounds_toArray, List.set_cons_zero, List.set_cons_succ, Nat.zero_add, Nat.reduceAdd]
      have e1 := cell_below hE Hf1.out
      go_simp
      exact ⟨Below.refl _ _, rfl⟩
    case r8s8 =>
      intro v W hE hd; simp only [Region.wanted, ↓reduceIte]; (try simp [deps, waitsOn, Region.binds, knowing, isV, ownsV, anyV] at hd); simp only [putAll, List.take_succ_cons, List.take_zero, List.drop_succ_cons, List.drop_zero, Act.put, List.setIfInBounds_toArray, List.set_cons_zero, List.set_cons_succ, Nat.zero_add, Nat.reduceAdd]; go_simp; exact ⟨Below.refl _ _, rfl⟩
  · rintro v W hE ⟨-, -, -, e3, e4, -, -, -, e8, -⟩
    have e3 := (show v 3 = _ from e3)
    have e4 := (show v 4 = _ from e4)
    have e8 := (show v 8 = _ from e8)
    simp only [putAll, List.take_succ_cons, List.take_zero, List.drop_succ_cons, List.drop_zero, Act.put, List.setIfInBounds_toArray, List.set_cons_zero, List.set_cons_succ, Nat.zero_add, Nat.reduceAdd]
    have hl2 : (turnB f.b k).length = n := by unfold turnB; rw [List.length_set]; exact Hnn.out.symm
    obtain ⟨Ax, cx, ex, hFV⟩ := FileV.made (w0 := w) (S := S) ((Hst.out.base (by simp)).below hE) H.out.fresh (show f.safe ≤ (turnB f.b k).length by omega) (show (turnB f.b k).length ≤ 65536 by omega)
    rw [hl2] at hFV
    simp only [Value.slice.injEq] at ex
    obtain ⟨rfl, -, rfl⟩ := ex
    have HFV := hid hFV
    rw [e3, e4, e8]
    have HD6 := hid (HD3.out.ext hE)
    have HM6 := hid (HM3.out.ext hE)
    have HK6 := hid (HK3.out.trans (Kept2.of_ext hE))
    have HH6 := hid (HH.out.kept HK6.out H.out.own H.out.ownM)
    obtain ⟨w7, hrun, hM7, ht7⟩ := HM6.out.store nm (.agg #[.slice (some ⟨g, 0, none⟩) n c', .int .i64 (f.safe : Int)]) rfl hn (by have := HH.out.length; have := H.out.few; omega)
    have HM7 := hid hM7; have Ht7 := hid ht7.grown
    clear e3 e4 e8 hM7 ht7 hE hFV hl2
    go_wp2
    go_ret
    have hk := Kept2.of_grown (d := d) Ht7.out (.inr rfl)
    refine ⟨by rw [E1.out]; rfl, H.out.after (HD6.out.of_block (Ht7.out.block d HD6.out.lt (fun e => H.out.ne (by simpa using e)))) ⟨_, HM7.out, by rw [E2.out]; exact (HH6.out.put HFV.out).kept hk H.out.own H.out.ownM⟩ (HK6.out.trans hk) ?_ H.out.lr, HK6.out.trans hk⟩
    rw [E2.out, length_putF_there H.out.up H1.out]; exact H.out.few
end Go.Proofs.YtpipmkaljkhgiaaDoor
