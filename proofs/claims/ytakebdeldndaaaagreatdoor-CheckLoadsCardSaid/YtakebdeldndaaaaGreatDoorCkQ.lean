/- Several texts of this claim's, one behind the other. -/
import Derived.Test.YtakebdeldndaaaaGreatDoorFound
import Derived.Laws.BitsAllLaws
import Derived.Test.YtakebdeldndaaaaGreatDoorCkR
import Derived.Test.YtakebdeldndaaaaGreatDoorRDb
/- Texts: two rows of texts are the same. -/
namespace Go.Proofs.YtakebdeldndaaaaGreatDoor
open Go Go.RowKit
set_option linter.unusedSimpArgs false
set_option linter.unusedVariables false
set_option maxRecDepth 100000 in
set_option maxHeartbeats 2000000 in
theorem texts_at {w : World} {K K' : Nat → Prop} {A B : Option Addr} {n m c c' : Nat} {xs ys : List (List UInt8)} (ha : SlR Rep.str w K A n c xs) (hb : SlR Rep.str w K' B m c' ys) :
  Calls Tryz.prog 21 #[.slice A n c, .slice B m c'] w fun e w' => e = .returned (.bool (decide (xs = ys))) ∧ Ext w w' := by
 have hst := str_toList
 have hn := hid ha.1
 have hm := hid hb.1
 have hnc := ha.2.1
 have hmc := hb.2.1
 have hcm := ha.2.2.1
 have HA := hid ha
 have HB := hid hb
 clear ha hb
 go_enter Tryz.func21, Tryz.ntmps21
 by_cases hnm : n = m
 ·subst hnm
  go_wp2_with fail
  go_loopw [5] (fun i wr => ∃ k : Nat, k ≤ n ∧ i = .int .i64 (k : Int) ∧ Hid (Ext w wr) ∧ Hid (∀ j (hj : j < k) (h1 : j < xs.length) (h2 : j < ys.length), xs[j] = ys[j])) (fun i _ => n - (intOf i).toNat)
  case atStart => exact ⟨0, by omega, rfl, Below.refl _ _, fun j hj => by omega⟩
  case round =>
   obtain ⟨k, hk, rfl, HX, HE⟩ := hrel
   by_cases hlt : k < n
   ·have hkx : k < xs.length := by have := hn.out; omega
    have hky : k < ys.length := by have := hm.out; omega
    obtain ⟨b1, o1, rfl, -, f1⟩ := strs_at HA.out k hkx
    obtain ⟨b2, o2, rfl, -, f2⟩ := strs_at HB.out k hky
    have F1 := hid (cell_later HX.out f1)
    have F2 := hid (cell_later HX.out f2)
    clear f1 f2
    have hlt' : (k : Int) < (n : Int) := by omega
    have hk00 : ¬ ((k : Int) < 0) := by omega
    have hk0 : (0 : Int) ≤ (k : Int) := by omega
    by_cases he : xs[k] = ys[k]
    ·have hnext : Hid (∀ j (hj : j < k + 1) (h1 : j < xs.length) (h2 : j < ys.length), xs[j] = ys[j]) := fun j hj h1 h2 => by
      rcases Nat.lt_succ_iff_lt_or_eq.1 hj with h | rfl
      ·exact HE.out j h h1 h2
      ·exact he
     rw [← he] at F2
     generalize xs[k] = a at F1 F2
     clear he HE
     go_wp2_with fail
     apply wp_drawn [isV _, isV _, isV _, isV _, isV _, isV _, isV _, isV _, isV _] (by kernel_rfl)
     ·kernel_rfl
     ·refine ⟨?tx1s0, ?tx1s1, ?tx1s2, ?tx1s3, ?tx1s4, ?tx1s5, ?tx1s6, ?tx1s7, ?tx1s8, trivial⟩
      case tx1s0 | tx1s1 | tx1s2 =>
       intro v W hE hd; simp only [Region.wanted, ↓reduceIte]; (try simp [deps, waitsOn, Region.binds, knowing, isV, ownsV, anyV] at hd); simp only [putAll, List.take_succ_cons, List.take_zero, List.drop_succ_cons, List.drop_zero, Act.put, List.setIfInBounds_toArray, List.set_cons_zero, List.set_cons_succ, Nat.zero_add, Nat.reduceAdd]; go_simp; exact ⟨Below.refl _ _, rfl⟩
      case tx1s3 =>
       intro v W hE hd; simp only [Region.wanted, ↓reduceIte]; (try simp [deps, waitsOn, Region.binds, knowing, isV, ownsV, anyV] at hd); simp only [putAll, List.take_succ_cons, List.take_zero, List.drop_succ_cons, List.drop_zero, Act.put, List.setIfInBounds_toArray, List.set_cons_zero, List.set_cons_succ, Nat.zero_add, Nat.reduceAdd]
       have e1 := cell_later hE F1.out
       go_simp
       exact ⟨Below.refl _ _, rfl⟩
      case tx1s4 | tx1s5 | tx1s6 =>
       intro v W hE hd; simp only [Region.wanted, ↓reduceIte]; (try simp [deps, waitsOn, Region.binds, knowing, isV, ownsV, anyV] at hd); simp only [putAll, List.take_succ_cons, List.take_zero, List.drop_succ_cons, List.drop_zero, Act.put, List.setIfInBounds_toArray, List.set_cons_zero, List.set_cons_succ, Nat.zero_add, Nat.reduceAdd]; go_simp; exact ⟨Below.refl _ _, rfl⟩
      case tx1s7 =>
       intro v W hE hd; simp only [Region.wanted, ↓reduceIte]; (try simp [deps, waitsOn, Region.binds, knowing, isV, ownsV, anyV] at hd); simp only [putAll, List.take_succ_cons, List.take_zero, List.drop_succ_cons, List.drop_zero, Act.put, List.setIfInBounds_toArray, List.set_cons_zero, List.set_cons_succ, Nat.zero_add, Nat.reduceAdd]
       have e1 := cell_later hE F2.out
       go_simp
       exact ⟨Below.refl _ _, rfl⟩
      case tx1s8 =>
       intro v W hE hd; simp only [Region.wanted, ↓reduceIte]; (try simp [deps, waitsOn, Region.binds, knowing, isV, ownsV, anyV] at hd); simp only [putAll, List.take_succ_cons, List.take_zero, List.drop_succ_cons, List.drop_zero, Act.put, List.setIfInBounds_toArray, List.set_cons_zero, List.set_cons_succ, Nat.zero_add, Nat.reduceAdd]; go_simp; exact ⟨Below.refl _ _, rfl⟩
     ·rintro v W6 hE ⟨-, -, -, -, -, -, -, -, e8, -⟩
      have e8 := (show v 8 = _ from e8)
      simp only [putAll, List.take_succ_cons, List.take_zero, List.drop_succ_cons, List.drop_zero, Act.put, List.setIfInBounds_toArray, List.set_cons_zero, List.set_cons_succ, Nat.zero_add, Nat.reduceAdd]
      rw [e8]
      clear e8
      go_wp2_with fail
      go_roundw
      case rel => exact ⟨k + 1, by omega, by go_num, HX.out.trans (hE.mono HX.out.size), hnext⟩
      case measure => simp [intOf]; omega
    ·have hres := hid (show decide (xs = ys) = false from decide_eq_false fun e => he (by subst e; rfl))
     have heq : (xs[k] == ys[k]) = false := beq_eq_false_iff_ne.2 he
     generalize xs[k] = a at F1 heq
     generalize ys[k] = a' at F2 heq
     clear he HE
     go_wp2_with fail
     apply wp_drawn [isV _, isV _, isV _, isV _, isV _, isV _, isV _, isV _, isV _] (by kernel_rfl)
     ·kernel_rfl
     ·refine ⟨?tx2s0, ?tx2s1, ?tx2s2, ?tx2s3, ?tx2s4, ?tx2s5, ?tx2s6, ?tx2s7, ?tx2s8, trivial⟩
      case tx2s0 | tx2s1 | tx2s2 =>
       intro v W hE hd; simp only [Region.wanted, ↓reduceIte]; (try simp [deps, waitsOn, Region.binds, knowing, isV, ownsV, anyV] at hd); simp only [putAll, List.take_succ_cons, List.take_zero, List.drop_succ_cons, List.drop_zero, Act.put, List.setIfInBounds_toArray, List.set_cons_zero, List.set_cons_succ, Nat.zero_add, Nat.reduceAdd]; go_simp; exact ⟨Below.refl _ _, rfl⟩
      case tx2s3 =>
       intro v W hE hd; simp only [Region.wanted, ↓reduceIte]; (try simp [deps, waitsOn, Region.binds, knowing, isV, ownsV, anyV] at hd); simp only [putAll, List.take_succ_cons, List.take_zero, List.drop_succ_cons, List.drop_zero, Act.put, List.setIfInBounds_toArray, List.set_cons_zero, List.set_cons_succ, Nat.zero_add, Nat.reduceAdd]
       have e1 := cell_later hE F1.out
       go_simp
       exact ⟨Below.refl _ _, rfl⟩
      case tx2s4 | tx2s5 | tx2s6 =>
       intro v W hE hd; simp only [Region.wanted, ↓reduceIte]; (try simp [deps, waitsOn, Region.binds, knowing, isV, ownsV, anyV] at hd); simp only [putAll, List.take_succ_cons, List.take_zero, List.drop_succ_cons, List.drop_zero, Act.put, List.setIfInBounds_toArray, List.set_cons_zero, List.set_cons_succ, Nat.zero_add, Nat.reduceAdd]; go_simp; exact ⟨Below.refl _ _, rfl⟩
      case tx2s7 =>
       intro v W hE hd; simp only [Region.wanted, ↓reduceIte]; (try simp [deps, waitsOn, Region.binds, knowing, isV, ownsV, anyV] at hd); simp only [putAll, List.take_succ_cons, List.take_zero, List.drop_succ_cons, List.drop_zero, Act.put, List.setIfInBounds_toArray, List.set_cons_zero, List.set_cons_succ, Nat.zero_add, Nat.reduceAdd]
       have e1 := cell_later hE F2.out
       go_simp
       exact ⟨Below.refl _ _, rfl⟩
      case tx2s8 =>
       intro v W hE hd; simp only [Region.wanted, ↓reduceIte]; (try simp [deps, waitsOn, Region.binds, knowing, isV, ownsV, anyV] at hd); simp only [putAll, List.take_succ_cons, List.take_zero, List.drop_succ_cons, List.drop_zero, Act.put, List.setIfInBounds_toArray, List.set_cons_zero, List.set_cons_succ, Nat.zero_add, Nat.reduceAdd]; go_simp; exact ⟨Below.refl _ _, rfl⟩
     ·rintro v W6 hE ⟨-, -, -, -, -, -, -, -, e8, -⟩
      have e8 := (show v 8 = _ from e8)
      simp only [putAll, List.take_succ_cons, List.take_zero, List.drop_succ_cons, List.drop_zero, Act.put, List.setIfInBounds_toArray, List.set_cons_zero, List.set_cons_succ, Nat.zero_add, Nat.reduceAdd]
      rw [e8]
      clear e8
      go_wp2
      go_ret
      exact ⟨by rw [hres.out]; rfl, HX.out.trans (hE.mono HX.out.size)⟩
   ·obtain rfl : k = n := by omega
    have hres := hid (show decide (xs = ys) = true from decide_eq_true (List.ext_getElem (by rw [← hn.out, ← hm.out]) fun j h1 h2 => HE.out j (by have := hn.out; omega) h1 h2))
    have hlt' : ¬ ((k : Int) < (k : Int)) := by omega
    go_wp2
    go_ret
    exact ⟨by rw [hres.out]; rfl, HX.out⟩
 ·have hres := hid (show decide (xs = ys) = false from decide_eq_false fun e => hnm (by rw [hn.out, hm.out, e]))
  have hne : ¬ ((n : Int) = (m : Int)) := by omega
  go_wp2
  go_ret
  exact ⟨by rw [hres.out]; rfl, Below.refl _ _⟩
end Go.Proofs.YtakebdeldndaaaaGreatDoor
/- x & m for a mask of a few bits. Plain. -/
namespace Go.Proofs.YtakebdeldndaaaaGreatDoor
open Go Go.RowKit
set_option linter.unusedSimpArgs false
set_option linter.unusedVariables false
theorem mask_bits (x : Int) (m : Nat) (hm : m < 4611686018427387904) : ∃ z : Nat, z ≤ m ∧ bits .and .i64 x (m : Int) = (z : Int) := by
 refine ⟨(BitVec.ofInt 64 x &&& BitVec.ofInt 64 (m : Int)).toNat, ?_, ?_⟩
 ·rw [BitVec.toNat_and, BitVec.ofInt_natCast, BitVec.toNat_ofNat, Nat.mod_eq_of_lt (show m < 2 ^ 64 by omega)]
  exact Nat.and_le_right
 ·have h : (BitVec.ofInt 64 x &&& BitVec.ofInt 64 (m : Int)).toNat ≤ m := by
   rw [BitVec.toNat_and, BitVec.ofInt_natCast, BitVec.toNat_ofNat, Nat.mod_eq_of_lt (show m < 2 ^ 64 by omega)]
   exact Nat.and_le_right
  show IntKind.i64.wrap ((BitVec.ofInt 64 x &&& BitVec.ofInt 64 (m : Int)).toNat : Int) = _
  generalize (BitVec.ofInt 64 x &&& BitVec.ofInt 64 (m : Int)).toNat = z at *
  rw [IntKind.wrap_i64]
  omega
end Go.Proofs.YtakebdeldndaaaaGreatDoor
/- A disk and the reference's one, side by side, in a law's own memory; what is loaded of small files. -/
namespace Go.Proofs.YtakebdeldndaaaaGreatDoor
open Go Go.RowKit
set_option linter.unusedSimpArgs false
set_option linter.unusedVariables false
structure Pr (w0 wb : World) (S : Nat → Prop) (d m y g : Nat) (q l1 : Int) (F1 : Files) (l2 : Int) (F2 : Files) (w : World) : Prop where
 two : Two w S d m y g q l1 F1 q l2 F2
 below : Below w0.heap.size w0 w
 lo : w0.heap.size ≤ d ∧ w0.heap.size ≤ m ∧ w0.heap.size ≤ y ∧ w0.heap.size ≤ g
 old : ∀ k, S k → w0.heap.size ≤ k
 kb : ∀ k, k < wb.heap.size → k ≠ d → k ≠ m → k ≠ y → w.heap[k]? = wb.heap[k]?
 gy : g = y ∨ wb.heap.size ≤ g
 sz : wb.heap.size ≤ w.heap.size
section
variable {w0 wb w w' : World} {S : Nat → Prop} {d m y g : Nat} {q l1 l2 l1' l2' : Int} {F1 F2 F1' F2' : Files}
theorem Pr.fst (h : Pr w0 wb S d m y g q l1 F1 l2 F2 w) (hD : DiskIs w' S d m q l1' F1') (hK : Kept2 d m w w') : Pr w0 wb S d m y g q l1' F1' l2 F2 w' :=
 ⟨h.two.fst hD hK, h.below.trans (hK.below h.lo.1 h.lo.2.1 h.below.size), h.lo, h.old, fun k hk a1 a2 a3 => (hK.block k (Nat.lt_of_lt_of_le hk h.sz) a1 a2).trans (h.kb k hk a1 a2 a3), h.gy, Nat.le_trans h.sz hK.size⟩
theorem Pr.snd' {S' : Nat → Prop} {g' : Nat} (h : Pr w0 wb S d m y g q l1 F1 l2 F2 w) (hR : RefIs w' S' y g' q l2' F2') (hS : RStep w w' S S' y g) (hg : g' = g ∨ w.heap.size ≤ g') : Pr w0 wb S' d m y g' q l1 F1 l2' F2' w' := by
 have hsz := h.below.size
 have hlo := h.lo
 have hsb := h.sz
 have hgy := h.gy
 refine ⟨h.two.snd hR hS hg, h.below.trans (hS.kept.below hlo.2.2.1 hlo.2.2.2 hsz), ⟨hlo.1, hlo.2.1, hlo.2.2.1, by rcases hg with rfl | hg; exact hlo.2.2.2; omega⟩, fun j hj => ?_,
  fun k hk a1 a2 a3 => (hS.kept.block k (by omega) a3 (by omega)).trans (h.kb k hk a1 a2 a3), by omega, Nat.le_trans hsb hS.kept.size⟩
 by_cases hl : j < w.heap.size
 ·exact h.old j ((hS.same j hl).1 hj)
 ·omega
theorem Pr.snd (h : Pr w0 wb S d m y g q l1 F1 l2 F2 w) (k : ∃ S' g', RefIs w' S' y g' q l2' F2' ∧ RStep w w' S S' y g ∧ (g' = g ∨ w.heap.size ≤ g')) : ∃ S' g', Pr w0 wb S' d m y g' q l1 F1 l2' F2' w' := by
 obtain ⟨S', g', hR, hS, hg⟩ := k
 have hsz := h.below.size
 have hlo := h.lo
 have hsb := h.sz
 have hgy := h.gy
 refine ⟨S', g', h.two.snd hR hS hg, h.below.trans (hS.kept.below hlo.2.2.1 hlo.2.2.2 hsz), ⟨hlo.1, hlo.2.1, hlo.2.2.1, by rcases hg with rfl | hg; exact hlo.2.2.2; omega⟩, fun j hj => ?_,
  fun k hk a1 a2 a3 => (hS.kept.block k (by omega) a3 (by omega)).trans (h.kb k hk a1 a2 a3), by omega, Nat.le_trans hsb hS.kept.size⟩
 by_cases hl : j < w.heap.size
 ·exact h.old j ((hS.same j hl).1 hj)
 ·omega
theorem Pr.ext (h : Pr w0 wb S d m y g q l1 F1 l2 F2 w) (hE : Ext w w') : Pr w0 wb S d m y g q l1 F1 l2 F2 w' :=
 ⟨h.two.ext hE, below_then h.below h.below.size hE, h.lo, h.old, fun k hk a1 a2 a3 => (hE.block k (Nat.lt_of_lt_of_le hk h.sz)).trans (h.kb k hk a1 a2 a3), h.gy, Nat.le_trans h.sz hE.size⟩
theorem Pr.arg (h : Pr w0 wb S d m y g q l1 F1 l2 F2 w) {A : Option Addr} {bs : List UInt8} (hr : RB w0 A bs) : RS w S A bs := by
 have h1 : RK w0 (fun k => k < w0.heap.size) A (bvs bs) := RK.of_rv hr fun b o e hlt => hlt
 refine (h1.ext fun k hk => h.below.block k hk).mono fun k hk => ⟨Nat.lt_of_lt_of_le hk h.below.size, fun hs => ?_⟩
 have := h.old k hs
 omega
theorem Pr.row (h : Pr w0 wb S d m y g q l1 F1 l2 F2 w) {α : Type} {R : Rep α} {A : Option Addr} {n c : Nat} {xs : List α} (hr : SlR R w0 (· < w0.heap.size) A n c xs) {S' : Nat → Prop} (hS : ∀ k, S' k → w0.heap.size ≤ k) : SlR R w (Out S' w) A n c xs :=
 (hr.ext fun k hk => h.below.block k hk).mono fun k hk => ⟨Nat.lt_of_lt_of_le hk h.below.size, fun hs => by have := hS k hs; omega⟩
theorem Pr.cell (h : Pr w0 wb S d m y g q l1 F1 l2 F2 w) {k o : Nat} {v : Value} (hc : wb.cell? ⟨k, o, none⟩ = some v) (hk : k < wb.heap.size) (h1 : k ≠ d) (h2 : k ≠ m) (h3 : k ≠ y) : w.cell? ⟨k, o, none⟩ = some v :=
 (World.cell?_of_block (a := ⟨k, o, none⟩) (h.kb k hk h1 h2 h3)).trans hc
theorem pr_new {wa w1 : World} {q : Int} {bx : Nat} (hB : Below w0.heap.size w0 wa) (hbx : w0.heap.size ≤ bx ∧ bx < wa.heap.size) (hd : wa.heap.size ≤ d) (hm : wa.heap.size ≤ m) (hD : DiskIs w1 (fun k => k = d ∨ k = m) d m q (-1) []) (hE : Ext wa w1)
  (hR : RefIs w' (fun k => (k = d ∨ k = m ∨ k = bx) ∨ k = w1.heap.size) w1.heap.size w1.heap.size q (-1) []) (hE2 : Ext w1 w') : Pr w0 w' (fun k => (k = d ∨ k = m ∨ k = bx) ∨ k = w1.heap.size) d m w1.heap.size w1.heap.size q (-1) [] (-1) [] w' := by
 have hlt := hD.lt
 have hs1 := hB.size
 have hs2 := hE.size
 obtain ⟨G, hG, hH⟩ := hD.map
 have hH2 : Held w' (fun k => (k = d ∨ k = m ∨ k = bx) ∨ k = w1.heap.size) G [] := by
  cases G with
  | nil => trivial
  | cons x l => exact hH.elim
 have hD2 : DiskIs w' (fun k => (k = d ∨ k = m ∨ k = bx) ∨ k = w1.heap.size) d m q (-1) [] :=
  ⟨hD.str.ext hE2, ⟨G, hG.ext hE2, hH2⟩, hD.ne, .inl (.inl rfl), .inl (.inr (.inl rfl)), hR.fresh, hD.few, hD.lr⟩
 exact ⟨⟨hD2, hR, by omega, by omega, by omega, by omega⟩, below_then (below_then hB hB.size hE) (Nat.le_trans hB.size hE.size) hE2, ⟨by omega, by omega, by omega, by omega⟩, fun j hj => by rcases hj with (rfl | rfl | rfl) | rfl <;> omega, fun _ _ _ _ _ => rfl, .inl rfl, Nat.le_refl _⟩
end
theorem putFit_take {ds : List DefV} {b : List UInt8} {r : Int × List Ents} (hd : defsE ds = 0) (hb : b.length ≤ 2000) (h : takeO ds b = some r) : PutFit (ds.zip r.2) := by
 unfold takeO at h
 split at h
 ·cases h
 split at h
 ·cases h
 obtain ⟨Es, hE, rfl⟩ := Option.map_eq_some_iff.1 h
 obtain ⟨h1, h2, h3⟩ := ldAll_inv hE
 have g1 := (textS_len (numS (b.take (b.length - 4))).2.1).1
 have g2 := numS_len (b.take (b.length - 4))
 have g3 : (b.take (b.length - 4)).length ≤ b.length := by rw [List.length_take]; omega
 have hf : FarV 1125899906842624 2000 0 (ds.zip Es) := by
  refine ⟨by rw [List.length_zip]; have := (defsE_zero hd).1; omega, fun x hx => ?_, fun x hx => okE_fit (h3 x hx).1, by decide, by decide, by decide⟩
  obtain ⟨g4, g5, g6⟩ := h3 x hx
  exact ⟨by omega, fun p hp => by have := g6 p hp; omega⟩
 exact hf.put (by decide)
theorem putFit_try {ds : List DefV} {F : Files} {nm : List UInt8} {most : Int} {r : Int × List Ents} (hd : defsE ds = 0) (hF : ∀ nm f, atF F nm = some f → f.b.length ≤ 2000) (h : tryO ds F nm most = some r) : PutFit (ds.zip r.2) := by
 unfold tryO at h
 split at h
 ·cases h
 rename_i f hf
 split at h
 ·cases h
 rename_i r' hr
 split at h
 ·simp only [Option.some.injEq] at h
  subst h
  exact putFit_take hd (hF nm f hf) hr
 ·cases h
theorem putFit_load {ds : List DefV} {F : Files} {most : Int} (hd : defsE ds = 0) (hF : ∀ nm f, atF F nm = some f → f.b.length ≤ 2000) : PutFit (loadR ds F most).2 := by
 unfold loadR
 cases h1 : tryO ds F nmC most with
 | some r => exact putFit_try hd hF h1
 | none =>
  dsimp only
  cases h2 : tryO ds F nmN most with
  | some r => exact putFit_try hd hF h2
  | none => exact (farV_new (defsE_zero hd).1).put (by decide)
theorem small_one {b : List UInt8} {k : Nat} (h : b.length ≤ 800) : ∀ nm f, atF [(nmC, (⟨b, k⟩ : File))] nm = some f → f.b.length ≤ 2000 := fun nm f hf => by
 unfold atF at hf
 simp only [List.find?_cons, List.find?_nil] at hf
 split at hf
 ·simp at hf; subst hf; show b.length ≤ 2000; omega
 ·simp at hf
theorem small_two {b c : List UInt8} {k j : Nat} (h : b.length ≤ 800) (h2 : c.length ≤ 800) : ∀ nm f, atF [(nmC, (⟨b, k⟩ : File)), (nmN, ⟨c, j⟩)] nm = some f → f.b.length ≤ 2000 := fun nm f hf => by
 unfold atF at hf
 simp only [List.find?_cons, List.find?_nil] at hf
 split at hf
 ·simp at hf; subst hf; show b.length ≤ 2000; omega
 ·split at hf
  ·simp at hf; subst hf; show c.length ≤ 2000; omega
  ·simp at hf
theorem statesNil_at (w : World) : Calls Tryz.prog 24 #[.pointer none] w fun e w' => e = .returned (.string (str [])) ∧ w = w' := by
 go_enter Tryz.func24, Tryz.ntmps24
 go_wp2
 go_ret
 exact ⟨rfl, rfl⟩
theorem ownNil_at (w : World) : Calls Tryz.prog 26 #[.pointer none] w fun e w' => e = .returned (.string (str [])) ∧ w = w' := by
 go_enter Tryz.func26, Tryz.ntmps26
 go_wp2
 go_ret
 exact ⟨rfl, rfl⟩
theorem own_at {w : World} {S : Nat → Prop} {p : Nat} {L : List Pc} (h : RSetIs w S p L) (hf : PutFit (viewP L)) :
  Calls Tryz.prog 26 #[.pointer (some ⟨p, 0, none⟩)] w fun e w' => e = .returned (.string (str (setB (viewP L)))) ∧ Ext w w' := by
 have hcc := refSetPut_at h hf
 clear h hf
 go_enter Tryz.func26, Tryz.ntmps26
 go_wp2_with fail
 refine hcc.mono ?_
 clear hcc
 rintro e w1 ⟨hE, v, rfl, hO⟩
 obtain ⟨A3, n3, c3, rfl, rfl, -, hr3⟩ := OB.rd hO
 have hs := run_str hr3 c3
 have HE := hid hE
 clear hO hr3 hE
 go_wp2
 go_ret
 exact ⟨rfl, HE.out⟩
end Go.Proofs.YtakebdeldndaaaaGreatDoor
