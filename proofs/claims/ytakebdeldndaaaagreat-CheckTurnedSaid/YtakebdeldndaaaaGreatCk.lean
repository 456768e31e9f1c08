/- Several texts of this claim's, one behind the other. -/
import Derived.Test.YtakebdeldndaaaaGreatLd
import Derived.Test.YtakebdeldndaaaaGreatQB0
import Derived.Test.YtakebdeldndaaaaGreatCrc
import Derived.Test.YtakebdeldndaaaaGreatPja
import Derived.Test.YtakebdeldndaaaaGreatQcb
import Derived.OwnWalk
import Derived.Test.YtakebdeldndaaaaGreatDiskMap
import Derived.Test.YtakebdeldndaaaaGreatDefMk
import Derived.Test.YtakebdeldndaaaaGreatTexts
import Derived.Test.YtakebdeldndaaaaGreatBo0
/- Checkpoints as bytes. Plain. -/
namespace Go.Proofs.YtakebdeldndaaaaGreat
open Go
set_option linter.unusedVariables false

/-- What stands under the seal. -/
def ckB (ds : List DefV) (last : Int) (V : List (DefV × Ents)) : List UInt8 := encB last ++ encT (dfsB ds) ++ setB V
/-- What bytes are taken as. -/
def takeO (ds : List DefV) (b : List UInt8) : Option (Int × List Ents) :=
  if Crc.good b = false then none else
    if ((numS (b.take (b.length - 4))).2.2 || (textS (numS (b.take (b.length - 4))).2.1).2.2) = true ∨ (numS (b.take (b.length - 4))).1 < 0 ∨ 1048576 < (numS (b.take (b.length - 4))).1 ∨ (textS (numS (b.take (b.length - 4))).2.1).1 ≠ dfsB ds then none
    else (ldAll ds (textS (numS (b.take (b.length - 4))).2.1).2.1).map fun Es => ((numS (b.take (b.length - 4))).1, Es)
theorem enc_inj {x y : Int} {r r' : List UInt8} (hx : I64 x) (hy : I64 y) (h : encB x ++ r = encB y ++ r') : x = y ∧ r = r' := by
  have h1 := numO_enc hx r
  rw [h, numO_enc hy r'] at h1
  simp only [Option.some.injEq, Prod.mk.injEq] at h1
  exact ⟨h1.1.symm, h1.2.symm⟩
theorem txt_inj {x y : Str} {r r' : List UInt8} (hx : x.length ≤ 9223372036854775807) (hy : y.length ≤ 9223372036854775807) (h : encT x ++ r = encT y ++ r') : x = y ∧ r = r' := by
  have h1 := textO_enc hx r
  rw [h, textO_enc hy r'] at h1
  simp only [Option.some.injEq, Prod.mk.injEq] at h1
  exact ⟨h1.1.symm, h1.2.symm⟩
theorem flat_inj {α : Type} {f : α → List UInt8} {P : α → Prop} (hf : ∀ x y r r', P x → P y → f x ++ r = f y ++ r' → x = y ∧ r = r') : ∀ (xs ys : List α) (r r' : List UInt8), xs.length = ys.length → (∀ x ∈ xs, P x) → (∀ y ∈ ys, P y) → xs.flatMap f ++ r = ys.flatMap f ++ r' → xs = ys ∧ r = r'
  | [], [], r, r', _, _, _, h => ⟨rfl, h⟩
  | [], _ :: _, _, _, hl, _, _, _ => by simp at hl
  | _ :: _, [], _, _, hl, _, _, _ => by simp at hl
  | x :: xs, y :: ys, r, r', hl, hx, hy, h => by
    rw [List.flatMap_cons, List.flatMap_cons, List.append_assoc, List.append_assoc] at h
    obtain ⟨e1, h1⟩ := hf x y _ _ (hx x (by simp)) (hy y (by simp)) h
    obtain ⟨e2, h2⟩ := flat_inj hf xs ys r r' (by simpa using hl) (fun z hz => hx z (by simp [hz])) (fun z hz => hy z (by simp [hz])) h1
    exact ⟨by rw [e1, e2], h2⟩
theorem row_inj {α : Type} {f : α → List UInt8} {P : α → Prop} (hf : ∀ x y r r', P x → P y → f x ++ r = f y ++ r' → x = y ∧ r = r') {xs ys : List α} {r r' : List UInt8} (hlx : xs.length ≤ 1000000) (hly : ys.length ≤ 1000000) (hx : ∀ x ∈ xs, P x) (hy : ∀ y ∈ ys, P y)
    (h : encB (xs.length : Int) ++ xs.flatMap f ++ r = encB (ys.length : Int) ++ ys.flatMap f ++ r') : xs = ys ∧ r = r' := by
  rw [List.append_assoc, List.append_assoc] at h
  obtain ⟨e1, h1⟩ := enc_inj (by unfold I64; omega) (by unfold I64; omega) h
  exact flat_inj hf xs ys r r' (by omega) hx hy h1
theorem lsB_inj {xs ys : List Str} {r r' : List UInt8} (hlx : xs.length ≤ 4) (hly : ys.length ≤ 4) (hx : ∀ x ∈ xs, x.length ≤ 1000) (hy : ∀ y ∈ ys, y.length ≤ 1000) (h : lsB xs ++ r = lsB ys ++ r') : xs = ys ∧ r = r' :=
  row_inj (P := fun x : Str => x.length ≤ 1000) (fun x y r r' h1 h2 h => txt_inj (by omega) (by omega) h) (by omega) (by omega) hx hy h
theorem clB_inj {c d : ClV} {r r' : List UInt8} (hc : FitC c) (hd : FitC d) (h : clB c ++ r = clB d ++ r') : c = d ∧ r = r' := by
  unfold clB at h
  rw [List.append_assoc, List.append_assoc] at h
  obtain ⟨e1, h1⟩ := lsB_inj hc.few.1 hd.few.1 hc.tags hd.tags h
  obtain ⟨e2, h2⟩ := lsB_inj hc.few.2 hd.few.2 hc.types hd.types h1
  obtain ⟨a, b⟩ := c
  obtain ⟨a', b'⟩ := d
  dsimp only at e1 e2
  exact ⟨by rw [e1, e2], h2⟩
theorem qB_inj {q s : List ClV} {r r' : List UInt8} (hq : mayQ q = 0) (hs : mayQ s = 0) (h : qB q ++ r = qB s ++ r') : q = s ∧ r = r' := by
  obtain ⟨h1, h2⟩ := fitC_may hq
  obtain ⟨h3, h4⟩ := fitC_may hs
  exact row_inj (P := FitC) (fun x y r r' a b h => clB_inj a b h) (by omega) (by omega) h2 h4 h
theorem dfB_inj {d e : DefV} {r r' : List UInt8} (hd : FitD d) (he : FitD e) (h : dfB d ++ r = dfB e ++ r') : d = e ∧ r = r' := by
  unfold dfB at h
  rw [List.append_assoc, List.append_assoc, List.append_assoc, List.append_assoc] at h
  have k1 := hd.kind; have k2 := he.kind; have k3 := hd.field; have k4 := he.field
  obtain ⟨e1, h1⟩ := enc_inj (by unfold I64; omega) (by unfold I64; omega) h
  obtain ⟨e2, h2⟩ := txt_inj (by omega) (by omega) h1
  obtain ⟨e3, h3⟩ := qB_inj hd.q he.q h2
  obtain ⟨a, b, c⟩ := d
  obtain ⟨a', b', c'⟩ := e
  dsimp only at e1 e2 e3
  exact ⟨by rw [e1, e2, e3], h3⟩
/-- Definitions with the same bytes are the same. -/
theorem dfsB_inj {ds es : List DefV} (hd : defsE ds = 0) (he : defsE es = 0) (h : dfsB ds = dfsB es) : ds = es := by
  obtain ⟨h1, h2⟩ := defsE_zero hd
  obtain ⟨h3, h4⟩ := defsE_zero he
  have h5 : encB (ds.length : Int) ++ ds.flatMap dfB ++ [] = encB (es.length : Int) ++ es.flatMap dfB ++ [] := by rw [List.append_nil, List.append_nil]; exact h
  exact (row_inj (P := FitD) (fun x y r r' a b h => dfB_inj a b h) (by omega) (by omega) (fun x hx => fitD_may (h2 x hx)) (fun x hx => fitD_may (h4 x hx)) h5).1
theorem dfsB_len {ds : List DefV} (hd : defsE ds = 0) : (dfsB ds).length ≤ 129850 := by
  obtain ⟨h1, h2⟩ := defsE_zero hd
  have h3 := flat_le (f := dfB) (N := 32460) ds fun x hx => dfB_len (fitD_may (h2 x hx))
  have h4 := encB_len (x := (ds.length : Int)) (by omega)
  unfold dfsB
  rw [List.length_append]
  omega
theorem take_sealed (x : List UInt8) : (Crc.seal_ x).take ((Crc.seal_ x).length - 4) = x := by
  rw [Crc.seal_length, Nat.add_sub_cancel]
  unfold Crc.seal_
  exact List.take_left
/-- What was put is taken. -/
theorem take_put {ds : List DefV} {last : Int} {V : List (DefV × Ents)} (hd : defsE ds = 0) (hl : 0 ≤ last ∧ last ≤ 1048576) (hV : V.map (·.1) = ds) (hf : PutFit V) (hok : ∀ x ∈ V, okE x.1 x.2 = true) : takeO ds (Crc.seal_ (ckB ds last V)) = some (last, V.map (·.2)) := by
  have hdl := dfsB_len hd
  have e : ckB ds last V = encB last ++ (encT (dfsB ds) ++ setB V) := by unfold ckB; rw [List.append_assoc]
  unfold takeO
  rw [Crc.good_seal, if_neg (by decide), take_sealed, e, numS_enc (by omega)]
  dsimp only
  rw [textS_enc (by omega)]
  dsimp only
  rw [if_neg (by simp; omega)]
  have := ldAll_row (V := V) fun x hx => ⟨hok x hx, fun p hp => ⟨(hf.row x hx).key p hp, (hf.row x hx).num p hp⟩, by have := (hf.row x hx).len; omega⟩
  rw [hV] at this
  rw [this]
  rfl
/-- .. of other definitions it is none. -/
theorem take_other {ds es : List DefV} {last : Int} {V : List (DefV × Ents)} (hd : defsE ds = 0) (hl : 0 ≤ last ∧ last ≤ 1048576) (h : dfsB es ≠ dfsB ds) : takeO es (Crc.seal_ (ckB ds last V)) = none := by
  have hdl := dfsB_len hd
  have e : ckB ds last V = encB last ++ (encT (dfsB ds) ++ setB V) := by unfold ckB; rw [List.append_assoc]
  unfold takeO
  rw [Crc.good_seal, if_neg (by decide), take_sealed, e, numS_enc (by omega)]
  dsimp only
  rw [textS_enc (by omega)]
  dsimp only
  rw [if_pos (.inr (.inr (.inr fun e => h e.symm)))]
theorem take_bad {ds : List DefV} {b : List UInt8} (h : Crc.good b = false) : takeO ds b = none := by
  unfold takeO; rw [if_pos h]
end Go.Proofs.YtakebdeldndaaaaGreat

/- check.Put. -/
namespace Go.Proofs.YtakebdeldndaaaaGreat
open Go Go.RowKit
set_option linter.unusedSimpArgs false
set_option linter.unusedVariables false

structure CkPutIs (w : World) (ds : List DefV) (last : Int) (V : List (DefV × Ents)) (e : Ending) (w' : World) : Prop where
  ext : Ext w w'
  ans : (defsE ds ≠ 0 ∧ e = .returned (.tuple #[.slice none 0 0, .int .i64 (defsE ds)])) ∨
    (defsE ds = 0 ∧ (last < 0 ∨ 1048576 < last ∨ V.length ≠ ds.length) ∧ e = .returned (.tuple #[.slice none 0 0, .int .i64 1])) ∨
    (defsE ds = 0 ∧ (0 ≤ last ∧ last ≤ 1048576 ∧ V.length = ds.length) ∧ ∃ v, e = .returned (.tuple #[v, .int .i64 0]) ∧ OB w' w.heap.size v (Crc.seal_ (ckB ds last V)))
set_option maxRecDepth 100000 in
set_option maxHeartbeats 4000000 in
theorem ckPut_at {w : World} {S : Nat → Prop} {p : Nat} {L : List Pc} (h : SetIs w S p L) {A : Option Addr} {n c : Nat} {ds : List DefV} (hx : SlR RDef w (· < w.heap.size) A n c ds) {last : Int} (hlast : I64 last) (hf : PutFit (viewP L)) (hsz : (setB (viewP L)).length ≤ 10000000) :
    Calls Tryz.prog 8 #[.slice A n c, .int .i64 last, .pointer (some ⟨p, 0, none⟩)] w fun e w' => CkPutIs w ds last (viewP L) e w' := by
  have hn := hid hx.1
  have hnc := hx.2.1
  have hcm := hx.2.2.1
  have H := hid h; have Hf := hid hf; have Hsz := hid hsz; have Hlast := hid hlast
  have hpd := putDefsB_at hx
  have hz := zero_tab
  clear h hx hf hsz hlast
  go_enter Tryz.func8, Tryz.ntmps8
  go_wp2_with fail
  refine hpd.mono ?_
  clear hpd
  rintro e w1 ⟨⟨v0, rfl, hO0⟩, hE⟩
  have HE1 := hid hE
  have HO0 := hid hO0
  clear hE hO0
  by_cases h0 : defsE ds = 0
  rotate_left
  · have Hpost := hid (fun W (hE : Ext w W) => (⟨hE, .inl ⟨h0, rfl⟩⟩ : CkPutIs w ds last (viewP L) (.returned (.tuple #[.slice none 0 0, .int .i64 (defsE ds)])) W))
    generalize defsE ds = me at *
    have hx : (me != 0) = true := by simpa using h0
    have hx2 : (me == 0) = false := by simpa using h0
    clear h0 HO0
    -- refused
    go_wp2
    go_ret2
    exact Hpost.out _ HE1.out
  have H0 := hid h0
  rw [h0]
  have HOp := hid (HO0.out h0)
  clear HO0 h0
  by_cases hl0 : last < 0
  · have Hpost := hid (fun W (hE : Ext w W) => (⟨hE, .inr (.inl ⟨H0.out, .inl hl0, rfl⟩)⟩ : CkPutIs w ds last (viewP L) (.returned (.tuple #[.slice none 0 0, .int .i64 1])) W))
    clear HOp
    -- refused
    go_wp2
    go_ret2
    exact Hpost.out _ HE1.out
  by_cases hl1 : 1048576 < last
  · have Hpost := hid (fun W (hE : Ext w W) => (⟨hE, .inr (.inl ⟨H0.out, .inr (.inl hl1), rfl⟩)⟩ : CkPutIs w ds last (viewP L) (.returned (.tuple #[.slice none 0 0, .int .i64 1])) W))
    clear HOp
    -- refused
    go_wp2
    go_ret2
    exact Hpost.out _ HE1.out
  have hmn := setMany_at (H.out.ext HE1.out)
  have Hvl := hid (viewP_len L)
  generalize hll : L.length = ln at hmn
  have Hll := hid hll
  clear hll
  by_cases hlen : ln = n
  rotate_left
  · have Hpost := hid (fun W (hE : Ext w W) => (⟨hE, .inr (.inl ⟨H0.out, .inr (.inr (by rw [Hvl.out, Hll.out, ← hn.out]; exact hlen)), rfl⟩)⟩ : CkPutIs w ds last (viewP L) (.returned (.tuple #[.slice none 0 0, .int .i64 1])) W))
    have hne : ((ln : Int) != (n : Int)) = true := by simpa using (by omega : ¬ ((ln : Int) = (n : Int)))
    clear HOp hlen
    go_wp2_with fail
    refine hmn.mono ?_
    clear hmn
    rintro e wx ⟨rfl, hw⟩
    obtain rfl : w1 = wx := hw.symm
    clear hw
    -- refused
    go_wp2
    go_ret2
    exact Hpost.out _ HE1.out
  subst hlen
  have hne : ((ln : Int) != (ln : Int)) = false := by simp
  go_wp2_with fail
  refine hmn.mono ?_
  clear hmn
  rintro e wx ⟨rfl, hw⟩
  obtain rfl : w1 = wx := hw.symm
  clear hw
  obtain ⟨Ap, np, cp, rfl, hnp, hcp, hRp⟩ := OB.rd HOp.out
  have HRp := hid hRp; have Hnp := hid hnp
  clear hRp hnp hne
  go_wp2_with fail
  refine (new_calls _).mono ?_
  rintro e w2 ⟨rfl, hb1⟩
  have HB2 := hid (HE1.out.trans' hb1)
  have HRp2 := hid (RB.below HRp.out hb1)
  have Ht := hid (TabAt.new w2)
  have hE3 := ext_alloc w2 (.cells (tabs 256) 70)
  have HE3 := hid (HB2.out.trans' hE3)
  have HRp3 := hid (RB.below HRp2.out hE3)
  have Hw3 := hid (show w2.heap.size < (w2.alloc (.cells (tabs 256) 70)).heap.size by simp)
  clear hb1 hE3
  go_wp2_with (refine wpList_store_tab (w := w2) rfl (.tmp 10) (.tmp 38) rfl rfl rfl ?_)
  generalize w2.alloc (.cells (tabs 256) 70) = w3 at *
  have hdl := dfsB_len H0.out
  have Hdl := hid hdl
  have Hl := hid (show 0 ≤ last ∧ last ≤ 1048576 by omega)
  clear hdl HRp HRp2
  generalize hbp : dfsB ds = bp at *
  have Hbp := hid hbp
  clear hbp
  generalize hbv : setB (viewP L) = bv' at *
  have Hbv := hid hbv
  clear hbv
  apply wp_drawn_last 7 [isV _, obX w3.heap.size (encB last), isV _, isV (.string (str bp)), obX w3.heap.size (encB last ++ encT bp), isV _, obX w.heap.size bv'] (by decide) (by kernel_rfl)
  · kernel_rfl
  · kernel_rfl
  · refine ⟨?cps0, ?cps1, ?cps2, ?cps3, ?cps4, ?cps5, ?cps6, trivial⟩
    case cps0 =>
      intro v W hE hd; simp only [Region.wanted, ↓reduceIte]; (try simp [deps, waitsOn, Region.binds, knowing, isV, ownsV, anyV] at hd); simp only [putAll, List.take_succ_cons, List.take_zero, List.drop_succ_cons, List.drop_zero, Act.put, List.setIfInBounds_toArray, List.set_cons_zero, List.set_cons_succ, Nat.zero_add, Nat.reduceAdd]; go_simp; exact ⟨Below.refl _ _, rfl⟩
    case cps1 =>
      intro v W hE hd; simp only [Region.wanted, ↓reduceIte]; (try simp [deps, waitsOn, Region.binds, knowing, isV, ownsV, anyV] at hd); simp only [putAll, List.take_succ_cons, List.take_zero, List.drop_succ_cons, List.drop_zero, Act.put, List.setIfInBounds_toArray, List.set_cons_zero, List.set_cons_succ, Nat.zero_add, Nat.reduceAdd]
      have hcc := numPut_at (w := W) (A := none) (n := 0) (c := 0) (bs := []) rfl (Nat.le_refl _) (RB.nil _ _) (by omega) last Hlast.out
      rw [List.nil_append] at hcc
      go_simp
      refine hcc.mono ?_
      clear hcc
      rintro e w' ⟨v', rfl, hO, hE2⟩
      have HOo := hid hO; have HEe := hid hE2
      clear hO hE2
      go_simp
      exact ⟨HEe.out, OB.base HOo.out hE.size⟩
    case cps2 =>
      intro v W hE hd; simp only [Region.wanted, ↓reduceIte]; (try simp [deps, waitsOn, Region.binds, knowing, isV, ownsV, anyV] at hd); simp only [putAll, List.take_succ_cons, List.take_zero, List.drop_succ_cons, List.drop_zero, Act.put, List.setIfInBounds_toArray, List.set_cons_zero, List.set_cons_succ, Nat.zero_add, Nat.reduceAdd]; go_simp; exact ⟨Below.refl _ _, rfl⟩
    case cps3 =>
      intro v W hE hd; simp only [Region.wanted, ↓reduceIte]; (try simp [deps, waitsOn, Region.binds, knowing, isV, ownsV, anyV] at hd); simp only [putAll, List.take_succ_cons, List.take_zero, List.drop_succ_cons, List.drop_zero, Act.put, List.setIfInBounds_toArray, List.set_cons_zero, List.set_cons_succ, Nat.zero_add, Nat.reduceAdd]
      have hs := run_str (RB.below HRp3.out hE) cp
      rw [← Hnp.out] at hs
      go_simp
      exact ⟨Below.refl _ _, rfl⟩
    case cps4 =>
      intro v W hE hd; simp only [Region.wanted, ↓reduceIte]; (try simp [deps, waitsOn, Region.binds, knowing, isV, ownsV, anyV] at hd); simp only [putAll, List.take_succ_cons, List.take_zero, List.drop_succ_cons, List.drop_zero, Act.put, List.setIfInBounds_toArray, List.set_cons_zero, List.set_cons_succ, Nat.zero_add, Nat.reduceAdd]
      obtain ⟨h1, h3⟩ := hd
      obtain ⟨A3, n3, c3, e3, hn3, hc3, hr3⟩ := OB.rd (show OB W w3.heap.size (v 1) (encB last) from h1)
      have hel := encB_len (x := last) (by have := Hl.out; omega)
      have h3' : v 3 = .string (str bp) := by first | exact h3 | exact h3.1
      rw [e3, h3']
      have hcc := numPutText_at hn3 hc3 hr3 (by omega) bp (by have := Hdl.out; omega)
      clear h1 hn3 hr3 hel h3
      go_simp
      refine hcc.mono ?_
      clear hcc
      rintro e w' ⟨v', rfl, hO, hE2⟩
      have HOo := hid hO; have HEe := hid hE2
      clear hO hE2
      go_simp
      exact ⟨HEe.out, OB.base HOo.out hE.size⟩
    case cps5 =>
      intro v W hE hd; simp only [Region.wanted, ↓reduceIte]; (try simp [deps, waitsOn, Region.binds, knowing, isV, ownsV, anyV] at hd); simp only [putAll, List.take_succ_cons, List.take_zero, List.drop_succ_cons, List.drop_zero, Act.put, List.setIfInBounds_toArray, List.set_cons_zero, List.set_cons_succ, Nat.zero_add, Nat.reduceAdd]; go_simp; exact ⟨Below.refl _ _, rfl⟩
    case cps6 =>
      intro v W hE hd; simp only [Region.wanted, ↓reduceIte]; (try simp [deps, waitsOn, Region.binds, knowing, isV, ownsV, anyV] at hd); simp only [putAll, List.take_succ_cons, List.take_zero, List.drop_succ_cons, List.drop_zero, Act.put, List.setIfInBounds_toArray, List.set_cons_zero, List.set_cons_succ, Nat.zero_add, Nat.reduceAdd]
      have hcc := setPut_at (H.out.ext (HE3.out.trans' hE)) Hf.out
      rw [Hbv.out] at hcc
      go_simp
      refine hcc.mono ?_
      clear hcc
      rintro e w' ⟨hE2, v', rfl, hO⟩
      have HOo := hid hO; have HEe := hid hE2
      clear hO hE2
      go_simp
      exact ⟨HEe.out, OB.base HOo.out (by have := hE.size; have := HE3.out.size; omega)⟩
  · rintro v W9 hE ⟨-, -, -, -, e4, -, e6, -⟩
    have e4 := (show _ from e4)
    have e6 := (show _ from e6)
    simp only [putAll, List.take_succ_cons, List.take_zero, List.drop_succ_cons, List.drop_zero, Act.put, List.setIfInBounds_toArray, List.set_cons_zero, List.set_cons_succ, Nat.zero_add, Nat.reduceAdd]
    have hO4 : OB W9 w3.heap.size (v 4) (encB last ++ encT bp) := e4
    obtain ⟨A4, n4, c4, x4, hn4, hc4, hr4⟩ := OB.rd hO4
    obtain ⟨A6, n6, c6, x6, hn6, hc6, hr6⟩ := OB.rd (show OB W9 w.heap.size (v 6) bv' from e6)
    rw [x4] at hO4
    rw [x4, x6]
    have HO4 := hid hO4
    have HEx := hid (HE3.out.trans' hE)
    have HR6 := hid hr6
    have Hn6 := hid hn6
    have Htb := hid (Ht.out.below hE)
    have hs9 := hE.size
    have HE9 := hid hE
    have hw3 := Hw3.out
    have hel := encB_len (x := last) (by have := Hl.out; omega)
    have het := encT_len (s := bp) (by have := Hdl.out; omega)
    have Hll2 := hid (show (encB last ++ encT bp).length + n6 ≤ 100000000 by rw [hn6, List.length_append]; have := Hdl.out; have := Hsz.out; omega)
    clear e4 e6 x4 x6 hO4 hr4 hr6 hn6 hel het hE
    go_wp2_with (at_builtin; refine wpList_appB (w0 := w3) rfl (.tmp 43) (.tmp 45) rfl w3.heap.size _ (encB last ++ encT bp) rfl HO4 HE9 hs9 A6 c6 n6 bv' rfl Hn6 HR6 (by have := Hll2.out; omega) ?_; intro v7 w7 HO7 HB7 HG7; obtain ⟨A7, n7, c7, rfl, hn7, hc7, hr7⟩ := OB.rd HO7.out; have Hn7 := hid hn7; have Hr7 := hid hr7; clear hn7 hr7)
    have Htb7 := hid (show TabAt w7 w2.heap.size from fun i hi => by
      have h1 := Htb.out i hi
      have h2 := HG7.out.grown.block w2.heap.size (by omega) (fun e => by have := (World.ownsRow.lt HO4.out w2.heap.size e.symm).1; omega)
      have e : w7.cell? ⟨w2.heap.size, i, none⟩ = W9.cell? ⟨w2.heap.size, i, none⟩ := by unfold World.cell?; dsimp only; rw [h2]
      rw [e]; exact h1)
    have hcc := seal_at w2.heap.size A7 n7 c7 (encB last ++ encT bp ++ bv') w7 Hn7.out (by rw [Hn7.out, List.length_append, ← Hn6.out]; have := Hll2.out; omega) Htb7.out Hr7.out
    refine hcc.mono ?_
    clear hcc
    rintro e w8 ⟨v8, rfl, hO8, hB8⟩
    have HO8 := hid hO8
    have HB8 := hid (Ext.trans' (Ext.trans' HE3.out HB7.out) hB8)
    clear hO8 hB8
    go_wp2
    go_ret2
    refine ⟨HB8.out, .inr (.inr ⟨H0.out, ⟨Hl.out.1, Hl.out.2, by rw [Hvl.out, Hll.out, ← hn.out]⟩, v8, rfl, ?_⟩)⟩
    have := OB.base HO8.out (show w.heap.size ≤ w7.heap.size from Nat.le_trans HE3.out.size HB7.out.size)
    unfold ckB
    rw [Hbp.out, Hbv.out]
    exact this
end Go.Proofs.YtakebdeldndaaaaGreat

/- check.Take. -/
namespace Go.Proofs.YtakebdeldndaaaaGreat
open Go Go.RowKit
set_option linter.unusedSimpArgs false
set_option linter.unusedVariables false

structure TakeIs (w : World) (ds : List DefV) (b : List UInt8) (e : Ending) (w' : World) : Prop where
  ext : Ext w w'
  ans : (defsE ds ≠ 0 ∧ e = .returned (.tuple #[.int .i64 0, .pointer none, .int .i64 (defsE ds)])) ∨
    (defsE ds = 0 ∧ takeO ds b = none ∧ e = .returned (.tuple #[.int .i64 0, .pointer none, .int .i64 2])) ∨
    (defsE ds = 0 ∧ ∃ last Es p L S, takeO ds b = some (last, Es) ∧ e = .returned (.tuple #[.int .i64 last, .pointer (some ⟨p, 0, none⟩), .int .i64 0]) ∧ One w.heap.size w' S p L ∧ viewP L = ds.zip Es)
/-- Where a reader stands, as a place in its bytes. -/
theorem read_pos {x : List UInt8} (h1 : (numS x).2.2 = false) (h2 : (textS (numS x).2.1).2.2 = false) : (textS (numS x).2.1).2.1.length ≤ x.length ∧ x.drop (x.length - (textS (numS x).2.1).2.1.length) = (textS (numS x).2.1).2.1 := by
  have k1 := (numS_ok (bs := x) (x := (numS x).1) (r := (numS x).2.1) (by rw [← h1])).1
  have k2 := textS_ok (bs := (numS x).2.1) (t := (textS (numS x).2.1).1) (r := (textS (numS x).2.1).2.1) (by rw [← h2])
  generalize (textS (numS x).2.1).2.1 = rest at *
  generalize (textS (numS x).2.1).1 = t at *
  generalize (numS x).2.1 = y at *
  subst k2
  rw [← List.append_assoc] at k1
  generalize encB (numS x).1 ++ encT t = pre at *
  refine ⟨by rw [k1, List.length_append]; omega, ?_⟩
  have e : x.length - rest.length = pre.length := by rw [k1, List.length_append]; omega
  rw [e, k1]
  exact List.drop_left
set_option maxRecDepth 100000 in
set_option maxHeartbeats 4000000 in
theorem ckTake_at {w : World} {A : Option Addr} {n c : Nat} {ds : List DefV} (hx : SlR RDef w (· < w.heap.size) A n c ds) {B : Option Addr} {m d : Nat} {b : List UInt8} (hm : m = b.length) (hmd : m ≤ d) (hb : RB w B b) (hlen : m ≤ 1800000) :
    Calls Tryz.prog 9 #[.slice A n c, .slice B m d] w fun e w' => TakeIs w ds b e w' := by
  have HX := hid hx
  have Hm := hid hm
  have Hb := hid hb
  have hpd := putDefsB_at hx
  have hz := zero_tab
  clear hx hb hm
  go_enter Tryz.func9, Tryz.ntmps9
  go_wp2_with fail
  refine hpd.mono ?_
  clear hpd
  rintro e w1 ⟨⟨v0, rfl, hO0⟩, hE⟩
  have HE1 := hid hE
  have HO0 := hid hO0
  clear hE hO0
  by_cases h0 : defsE ds = 0
  rotate_left
  · have Hpost := hid (fun W (hE : Ext w W) => (⟨hE, .inl ⟨h0, rfl⟩⟩ : TakeIs w ds b (.returned (.tuple #[.int .i64 0, .pointer none, .int .i64 (defsE ds)])) W))
    generalize defsE ds = me at *
    have hx : (me != 0) = true := by simpa using h0
    have hx2 : (me == 0) = false := by simpa using h0
    clear h0 HO0
    go_wp2
    go_ret3
    exact Hpost.out _ HE1.out
  have H0 := hid h0
  rw [h0]
  have HOp := hid (HO0.out h0)
  clear HO0 h0
  obtain ⟨Ap, np, cp, rfl, hnp, hcp, hRp⟩ := OB.rd HOp.out
  have HRp := hid hRp; have Hnp := hid hnp
  clear hRp hnp HOp
  go_wp2_with fail
  refine (new_calls _).mono ?_
  rintro e w2 ⟨rfl, hb1⟩
  have HB2 := hid (HE1.out.trans' hb1)
  have Ht := hid (TabAt.new w2)
  have hE3 := ext_alloc w2 (.cells (tabs 256) 70)
  have HE3 := hid (HB2.out.trans' hE3)
  have HRp3 := hid (RB.below (RB.below HRp.out hb1) hE3)
  clear hb1 hE3 HRp HB2
  go_wp2_with (refine wpList_store_tab (w := w2) rfl (.tmp 9) (.tmp 23) rfl rfl rfl ?_)
  generalize w2.alloc (.cells (tabs 256) 70) = w3 at *
  have hcc := open_at w2.heap.size B m d b w3 Hm.out (by omega) hmd Ht.out (RB.below Hb.out HE3.out)
  refine hcc.mono ?_
  clear hcc
  rintro e w4 ⟨⟨v4, rfl, hO4⟩, hB4⟩
  have HEx := hid (HE3.out.trans' hB4)
  have HRp4 := hid (RB.below HRp3.out hB4)
  have hs4 := HE3.out.size
  cases hg : Crc.good b
  · have HNo := hid (take_bad (ds := ds) hg)
    clear hO4 hB4 hg
    -- refused: 2
    have hpost := hid (show TakeIs w ds b (.returned (.tuple #[.int .i64 0, .pointer none, .int .i64 2])) w4 from ⟨HEx.out, .inr (.inl ⟨H0.out, HNo.out, rfl⟩)⟩)
    go_wp2
    go_ret3
    exact hpost.out
  rw [hg, if_pos rfl] at hO4
  have hO4 : OB w4 w3.heap.size v4 (b.take (b.length - 4)) := hO4
  obtain ⟨Ax, cx, rfl, hRx⟩ := ob_out (S := fun _ => False) hO4 (fun k hk => hk.elim)
  have Hg := hid hg
  have HTk := hid (show takeO ds b = if ((numS (b.take (b.length - 4))).2.2 || (textS (numS (b.take (b.length - 4))).2.1).2.2) = true ∨ (numS (b.take (b.length - 4))).1 < 0 ∨ 1048576 < (numS (b.take (b.length - 4))).1 ∨ (textS (numS (b.take (b.length - 4))).2.1).1 ≠ dfsB ds then none
    else (ldAll ds (textS (numS (b.take (b.length - 4))).2.1).2.1).map fun Es => ((numS (b.take (b.length - 4))).1, Es) from by unfold takeO; rw [hg]; rfl)
  have hlx : (b.take (b.length - 4)).length ≤ 1800000 := by rw [List.length_take]; have := Hm.out; omega
  have Hlx := hid hlx
  clear hO4 hB4 hg hlx
  generalize b.take (b.length - 4) = x at *
  have HRx := hid hRx
  have hcc := rdNew_at hRx (fun k hk => hk.elim)
  have hxc := hRx.2.1
  have hxm := hRx.2.2.1
  clear hRx
  generalize hxl : x.length = xl at *
  have Hxl := hid hxl
  clear hxl
  go_wp2_with fail
  refine hcc.mono ?_
  clear hcc
  rintro e w5 ⟨rfl, hR, hE5, -⟩
  obtain ⟨r, hr⟩ : ∃ r, r = w4.heap.size := ⟨_, rfl⟩
  have Hr := hid hr
  rw [← hr] at hR ⊢
  clear hr
  have HE5 := hid hE5
  have hcc := rdNum_at hR
  clear hR hE5
  go_wp2_with fail
  refine hcc.mono ?_
  clear hcc
  rintro e w6 ⟨rfl, hR, hK⟩
  have HE6 := hid (show Ext w4 w6 from HE5.out.trans (hK.below (by rw [Hr.out]; exact Nat.le_refl _) (by rw [Hr.out]; exact Nat.le_refl _) HE5.out.size))
  have Hpos := hid (fun h1 h2 => read_pos (x := x) h1 h2)
  have hnl := numS_len x
  have Hnr := hid (numS_range x)
  generalize (numS x).1 = a at *
  generalize (numS x).2.2 = f1 at *
  generalize (numS x).2.1 = y at *
  rw [Bool.false_or] at hR
  have hcc := rdText_at hR (by have := Hlx.out; have := Hxl.out; omega)
  have Hyl := hid (show y.length ≤ 1800000 by have := Hlx.out; have := Hxl.out; omega)
  clear hR hK hnl
  go_wp2_with fail
  refine hcc.mono ?_
  clear hcc
  rintro e w7 ⟨rfl, hR, hK⟩
  have HE7 := hid (show Ext w4 w7 from HE6.out.trans (hK.below (by rw [Hr.out]; exact Nat.le_refl _) (by rw [Hr.out]; exact Nat.le_refl _) HE6.out.size))
  have htl := textS_len y
  generalize (textS y).1 = t at *
  generalize (textS y).2.2 = f2 at *
  generalize (textS y).2.1 = rest at *
  have HRd := hid hR
  have Hrl := hid (show rest.length ≤ 1800000 by have := Hyl.out; omega)
  have HEx := hid (show Ext w w7 from Ext.trans' HEx.out HE7.out)
  have HRp7 := hid (RB.below HRp4.out HE7.out)
  have hcc := rdBad_at hR
  clear hR hK htl HE6 HE5 HRp4
  generalize hfb : (f1 || f2) = fb at *
  have Hfb := hid hfb
  clear hfb
  cases fb
  rotate_left
  · have HNo := hid (show takeO ds b = none by rw [HTk.out, if_pos (.inl rfl)])
    go_wp2_with fail
    refine hcc.mono ?_
    clear hcc
    rintro e wx ⟨rfl, hw⟩
    obtain rfl : w7 = wx := hw.symm
    clear hw
    -- refused: 2
    have hpost := hid (show TakeIs w ds b (.returned (.tuple #[.int .i64 0, .pointer none, .int .i64 2])) w7 from ⟨HEx.out, .inr (.inl ⟨H0.out, HNo.out, rfl⟩)⟩)
    go_wp2
    go_ret3
    exact hpost.out
  by_cases ha0 : a < 0
  · have HNo := hid (show takeO ds b = none by rw [HTk.out, if_pos (.inr (.inl ha0))])
    go_wp2_with fail
    refine hcc.mono ?_
    clear hcc
    rintro e wx ⟨rfl, hw⟩
    obtain rfl : w7 = wx := hw.symm
    clear hw
    -- refused: 2
    have hpost := hid (show TakeIs w ds b (.returned (.tuple #[.int .i64 0, .pointer none, .int .i64 2])) w7 from ⟨HEx.out, .inr (.inl ⟨H0.out, HNo.out, rfl⟩)⟩)
    go_wp2
    go_ret3
    exact hpost.out
  by_cases ha1 : 1048576 < a
  · have HNo := hid (show takeO ds b = none by rw [HTk.out, if_pos (.inr (.inr (.inl ha1)))])
    go_wp2_with fail
    refine hcc.mono ?_
    clear hcc
    rintro e wx ⟨rfl, hw⟩
    obtain rfl : w7 = wx := hw.symm
    clear hw
    -- refused: 2
    have hpost := hid (show TakeIs w ds b (.returned (.tuple #[.int .i64 0, .pointer none, .int .i64 2])) w7 from ⟨HEx.out, .inr (.inl ⟨H0.out, HNo.out, rfl⟩)⟩)
    go_wp2
    go_ret3
    exact hpost.out
  have hs := run_str HRp7.out cp
  rw [← Hnp.out] at hs
  by_cases htx : t = dfsB ds
  rotate_left
  · have HNo := hid (show takeO ds b = none by rw [HTk.out, if_pos (.inr (.inr (.inr htx)))])
    have hne : ((str t).toList == (str (dfsB ds)).toList) = false := by rw [str_toList, str_toList]; exact beq_eq_false_iff_ne.2 htx
    generalize dfsB ds = bp at *
    clear htx
    go_wp2_with fail
    refine hcc.mono ?_
    clear hcc
    rintro e wx ⟨rfl, hw⟩
    obtain rfl : w7 = wx := hw.symm
    clear hw
    -- refused: 2
    have hpost := hid (show TakeIs w ds b (.returned (.tuple #[.int .i64 0, .pointer none, .int .i64 2])) w7 from ⟨HEx.out, .inr (.inl ⟨H0.out, HNo.out, rfl⟩)⟩)
    go_wp2
    go_ret3
    exact hpost.out
  have HTk2 := hid (show takeO ds b = (ldAll ds rest).map fun Es => (a, Es) from by rw [HTk.out, if_neg (by rintro (h | h | h | h); cases h; exact ha0 h; exact ha1 h; exact h htx)])
  subst htx
  obtain ⟨hf1, hf2⟩ : f1 = false ∧ f2 = false := by have := Hfb.out; simpa using this
  obtain ⟨hp1, hp2⟩ := Hpos.out hf1 hf2
  rw [Hxl.out] at hp1 hp2
  have Hp2 := hid hp2
  generalize dfsB ds = bp at *
  have hnew := projNew2_at (HX.out.grow HEx.out)
  clear HTk Hpos hf1 hf2 hp2 Hfb
  go_wp2_with fail
  refine hcc.mono ?_
  clear hcc
  rintro e wx ⟨rfl, hw⟩
  obtain rfl : w7 = wx := hw.symm
  clear hw
  go_wp2_with fail
  clear hs
  refine hnew.mono ?_
  clear hnew
  rintro e w8 ⟨hE8, hans⟩
  rcases hans with ⟨h, -⟩ | ⟨-, p, L, S, rfl, hS, hv, hR, hSl, hb⟩
  · exact absurd H0.out h
  obtain ⟨hl4, -⟩ := defsE_zero H0.out
  have hs7 := HEx.out.size
  have HD := hid (show One w.heap.size w8 (fun k => k = p ∨ Blk L k) p L from one_new hS fun k hk => ⟨Nat.le_trans hs7 (hb k hk).1, (hb k hk).2⟩)
  have HS7 : Hid (∀ k, (fun k => k = p ∨ Blk L k) k → w7.heap.size ≤ k) := hid (fun k hk => (hb k hk.symm).1)
  have Hds := hid (viewP_ds L ds hv)
  have Hll := hid (show L.length ≤ 4 from by rw [← viewP_len, hv, List.length_map]; exact hl4)
  have HE8 := hid (show Ext w4 w8 from Ext.trans' HE7.out hE8)
  have HEx := hid (show Ext w w8 from Ext.trans' HEx.out hE8)
  have hlf := rdLeft_at (HRd.out.ext hE8)
  clear hS hv hR hSl hb hE8 hl4
  generalize hSS : (fun k => k = p ∨ Blk L k) = SS at *
  clear hSS
  obtain ⟨Al, hAl, hq⟩ := slice_fromK (HRx.out.ext fun k hk => HE8.out.block k hk.1) (xl - rest.length) (by omega)
  rw [Hp2.out, show xl - (xl - rest.length) = rest.length by omega] at hAl
  rw [show xl - (xl - rest.length) = rest.length by omega] at hq
  have hAl2 : SlR Rep.u8 w8 (Out SS w8) Al rest.length (cx - (xl - rest.length)) rest := hAl.mono fun k hk => ⟨Nat.lt_of_lt_of_le hk.1 HE8.out.size, fun h => by have := HS7.out k h; have := HE7.out.size; have := hk.1; omega⟩
  have hqi : (((xl - rest.length : Nat)) : Int) = (xl : Int) - (rest.length : Int) := by omega
  rw [hqi] at hq
  have hcc := setLoad_at HD.out.A HD.out.lt (by have := Hll.out; omega) hAl2 Hrl.out
  clear hAl hAl2 hqi
  generalize hrl : rest.length = rl at *
  have hi0 : (0 : Int) ≤ (xl : Int) - (rl : Int) := by omega
  have hi1 : (xl : Int) - (rl : Int) ≤ (cx : Int) := by omega
  have Hrl2 := hid hrl
  clear hrl
  go_wp2_with fail
  refine hlf.mono ?_
  clear hlf
  rintro e wx ⟨rfl, hw⟩
  obtain rfl : w8 = wx := hw.symm
  clear hw
  go_wp2_with fail
  refine hcc.mono ?_
  clear hcc
  rintro e w9 hD
  obtain ⟨g, rfl, S9, L9, hD9, hg⟩ := HD.out.load hD
  have hpl := HD.out.lo _ HD.out.A.pIn
  have HEx := hid (show Ext w w9 from HEx.out.trans (hD.kept.below hpl hpl HEx.out.size))
  have HD9 := hid hD9
  rw [Hds.out] at hg
  clear hD hD9 hpl
  rcases hg with ⟨Es, e1, rfl, e2⟩ | ⟨e1, rfl, -⟩
  · have hpost := hid (show TakeIs w ds b (.returned (.tuple #[.int .i64 a, .pointer (some ⟨p, 0, none⟩), .int .i64 0])) w9 from ⟨HEx.out, .inr (.inr ⟨H0.out, a, Es, p, L9, S9, by rw [HTk2.out, e1]; rfl, rfl, HD9.out, e2⟩)⟩)
    clear e1 e2
    go_wp2
    go_ret3
    exact hpost.out
  · have HNo := hid (show takeO ds b = none by rw [HTk2.out, e1]; rfl)
    clear e1
    -- refused: 2
    have hpost := hid (show TakeIs w ds b (.returned (.tuple #[.int .i64 0, .pointer none, .int .i64 2])) w9 from ⟨HEx.out, .inr (.inl ⟨H0.out, HNo.out, rfl⟩)⟩)
    go_wp2
    go_ret3
    exact hpost.out
end Go.Proofs.YtakebdeldndaaaaGreat

/- registrarlaw17: shown, few, states. -/
namespace Go.Proofs.YtakebdeldndaaaaGreat
open Go Go.RowKit
set_option linter.unusedSimpArgs false
set_option linter.unusedVariables false

theorem mapN_ext {w w' : World} {m : Nat} {G : Raw} (h : MapAt w m G) (hE : Ext w w') : MapAt w' m G := by
  have hlt := World.ownsMap.lt h
  obtain ⟨es, clock, e1, e2⟩ := h
  exact ⟨es, clock, by rw [hE.block m hlt]; exact e1, e2⟩
structure DiskN (w : World) (d m : Nat) : Prop where
  files : w.cell? ⟨d, 2, none⟩ = some (.map (some m))
  map : MapAt w m []
theorem DiskN.ext {w w' : World} {d m : Nat} (h : DiskN w d m) (hE : Ext w w') : DiskN w' d m := ⟨cell_below hE h.files, mapN_ext h.map hE⟩
theorem ck_max0 (n m : Int) (hm : m = max n 0) (ts : Array TypeId) (t : TypeId) (w : World) : (Builtin.max_ ts t #[.int .i64 n, .int .i64 0]).run Tryz.prog w = .ok (.int .i64 m) w := by
  simp [Builtin.max_, Builtin.max2]
  repeat' split
  all_goals omega
set_option maxRecDepth 100000 in
theorem ckDisk_at (q : Int) (w : World) :
    Calls Tryz.prog 13 #[.int .i64 q] w fun e w' => ∃ d m, e = .returned (.pointer (some ⟨d, 0, none⟩)) ∧ DiskN w' d m ∧ Ext w w' := by
  have hmax := ck_max0 q (max q 0) rfl
  obtain ⟨x, hx⟩ : ∃ x, x = max q 0 := ⟨_, rfl⟩
  rw [← hx] at hmax
  clear hx
  have hmk := fun w => run_makeMap (P := Tryz.prog) 84 w
  go_enter Tryz.func13, Tryz.ntmps13
  go_wp2
  go_ret
  have hE1 : Ext w (w.alloc (.map #[] 0)) := (Below.refl _ _).alloc (Nat.le_refl _) _
  have hs : (w.alloc (.map #[] 0)).heap.size = w.heap.size + 1 := by simp
  refine ⟨w.heap.size + 1, w.heap.size, rfl, ⟨?_, ?_⟩, hE1.alloc hE1.size _⟩
  · have hb := heap_alloc_last (w.alloc (.map #[] 0)) (.cells #[.int .i64 x, .int .i64 (-1), .map (some w.heap.size)] 86)
    rw [hs] at hb
    rw [cell_of_row _ _ _ _ _ _ hb]; rfl
  · exact mapN_ext (MapAt.made w) ((Below.refl _ _).alloc (Nat.le_refl _) _)
set_option maxRecDepth 100000 in
set_option maxHeartbeats 1000000 in
theorem ckRead_at {w : World} {d m : Nat} (h : DiskN w d m) (nm : List UInt8) (hn : nm.length ≤ 9223372036854775807) :
    Calls Tryz.prog 34 #[.pointer (some ⟨d, 0, none⟩), .string (str nm)] w fun e w' => e = .returned (.tuple #[.slice none 0 0, .int .i64 11]) ∧ Ext w w' := by
  have hzf := zero_file
  unfold zfile at hzf
  have hlk := h.map.look nm hn
  have c2 := h.files
  have HE := hid (ext_alloc w (.cells #[.slice none 0 0, .int .i64 0] 126))
  rw [show atL ([] : Raw) nm = none from rfl] at hlk
  simp only [Option.getD_none, Option.isSome_none, zfile] at hlk
  clear h
  go_enter Tryz.func34, Tryz.ntmps34
  go_wp2
  go_ret2
  exact ⟨rfl, HE.out⟩
/-- Load from a disk that has none. -/
structure LoadN (w : World) (ds : List DefV) (e : Ending) (w' : World) : Prop where
  ext : Ext w w'
  ans : ∃ p L S, e = .returned (.tuple #[.int .i64 0, .pointer (some ⟨p, 0, none⟩), .int .i64 0]) ∧ SetIs w' S p L ∧ viewP L = ds.map (fun d => (d, []))
set_option maxRecDepth 100000 in
set_option maxHeartbeats 2000000 in
theorem ckLoadN_at {w : World} {d m : Nat} (h : DiskN w d m) {A : Option Addr} {n c : Nat} {ds : List DefV} (hx : SlR RDef w (· < w.heap.size) A n c ds) (h0 : defsE ds = 0) (most : Int) :
    Calls Tryz.prog 12 #[.pointer (some ⟨d, 0, none⟩), .slice A n c, .int .i64 most] w fun e w' => LoadN w ds e w' := by
  have HD := hid h; have HX := hid hx; have H0 := hid h0
  clear h hx h0
  go_enter Tryz.func12, Tryz.ntmps12
  go_wp2_with fail
  go_loopw [19] (fun i wr => ∃ k : Nat, k ≤ 2 ∧ i = .int .i64 (k : Int) ∧ Hid (Ext w wr)) (fun i _ => 2 - (intOf i).toNat)
  case atStart => exact ⟨0, by omega, rfl, hid (Below.refl _ _)⟩
  case round =>
    obtain ⟨k, hk, rfl, HE⟩ := hrel
    by_cases h2 : k = 2
    · subst h2
      have hnew := projNew2_at (HX.out.grow HE.out)
      go_wp2_with fail
      refine hnew.mono ?_
      clear hnew
      rintro e w2 ⟨hE2, hans⟩
      rcases hans with ⟨h, -⟩ | ⟨-, p, L, S, rfl, hS, hv, -, -, -⟩
      · exact absurd H0.out h
      have hpost := hid (show LoadN w ds (.returned (.tuple #[.int .i64 0, .pointer (some ⟨p, 0, none⟩), .int .i64 0])) w2 from ⟨HE.out.trans' hE2, p, L, S, rfl, hS, hv⟩)
      clear hS hv hE2
      go_wp2
      go_ret3
      exact hpost.out
    · have hcc := fun nm hn => ckRead_at (HD.out.ext HE.out) nm hn
      by_cases h1 : k = 0
      · subst h1
        have hc1 := hcc [99, 104, 101, 99, 107] (by decide)
        have hix : ∀ w, (Instr.index 82 (.agg #[.string { data := #[99, 104, 101, 99, 107] }, .string { data := #[99, 104, 101, 99, 107, 95, 110, 101, 119] }]) (.int .i64 0)).run Tryz.prog w = .ok (.string { data := #[99, 104, 101, 99, 107] }) w := fun w => by kernel_rfl
        clear hcc
        go_wp2_with fail
        refine hc1.mono ?_
        clear hc1
        rintro e w2 ⟨rfl, hE2⟩
        have HE2 := hid (HE.out.trans' hE2)
        clear hE2
        go_wp2_with fail
        go_roundw
        case rel => exact ⟨1, by omega, by go_num, HE2⟩
        case measure => simp [intOf]
      · obtain rfl : k = 1 := by omega
        have hc1 := hcc [99, 104, 101, 99, 107, 95, 110, 101, 119] (by decide)
        have hix : ∀ w, (Instr.index 82 (.agg #[.string { data := #[99, 104, 101, 99, 107] }, .string { data := #[99, 104, 101, 99, 107, 95, 110, 101, 119] }]) (.int .i64 1)).run Tryz.prog w = .ok (.string { data := #[99, 104, 101, 99, 107, 95, 110, 101, 119] }) w := fun w => by kernel_rfl
        clear hcc
        go_wp2_with fail
        refine hc1.mono ?_
        clear hc1
        rintro e w2 ⟨rfl, hE2⟩
        have HE2 := hid (HE.out.trans' hE2)
        clear hE2
        go_wp2_with fail
        go_roundw
        case rel => exact ⟨2, by omega, by go_num, HE2⟩
        case measure => simp [intOf]
set_option maxRecDepth 100000 in
set_option maxHeartbeats 4000000 in
theorem shown17_at (w : World) : Calls Tryz.prog 5 #[] w fun e w' => e = .returned (.bool true) ∧ Ext w w' := by
  have hs1 : (w.alloc (.cells #[.slice none 0 0, .slice none 0 0] 45)).heap.size = w.heap.size + 1 := by simp
  have hE1 := ext_alloc w (.cells #[.slice none 0 0, .slice none 0 0] 45)
  have hcl : SlR RCl (w.alloc (.cells #[.slice none 0 0, .slice none 0 0] 45)) (· < w.heap.size + 1) (some ⟨w.heap.size, 0, none⟩) 1 1 [allC] :=
    slR_box (R := RCl) (cs := [.slice none 0 0, .slice none 0 0]) (x := allC) (cl_mk (c := allC) (slR_nil _ _) (slR_nil _ _)) (Nat.lt_succ_self _)
  have hE2 := ext_alloc (w.alloc (.cells #[.slice none 0 0, .slice none 0 0] 45)) (.cells #[.int .i64 1, .string { data := #[] }, .slice (some ⟨w.heap.size, 0, none⟩) 1 1] 50)
  have hdf : SlR RDef ((w.alloc (.cells #[.slice none 0 0, .slice none 0 0] 45)).alloc (.cells #[.int .i64 1, .string { data := #[] }, .slice (some ⟨w.heap.size, 0, none⟩) 1 1] 50)) (· < ((w.alloc (.cells #[.slice none 0 0, .slice none 0 0] 45)).alloc (.cells #[.int .i64 1, .string { data := #[] }, .slice (some ⟨w.heap.size, 0, none⟩) 1 1] 50)).heap.size) (some ⟨w.heap.size + 1, 0, none⟩) 1 1 [d0] := by
    have := slR_box (R := RDef) (K := (· < ((w.alloc (.cells #[.slice none 0 0, .slice none 0 0] 45)).alloc (.cells #[.int .i64 1, .string { data := #[] }, .slice (some ⟨w.heap.size, 0, none⟩) 1 1] 50)).heap.size)) (cs := [.int .i64 1, .string { data := #[] }, .slice (some ⟨w.heap.size, 0, none⟩) 1 1]) (x := d0) (t := 50) (w := w.alloc (.cells #[.slice none 0 0, .slice none 0 0] 45)) (def_mk (d := d0) (Nat.zero_le _) ((hcl.ext fun k hk => hE2.block k (by rw [hs1]; exact hk)).mono fun k hk => by simp; omega)) (by simp)
    rwa [hs1] at this
  have HE2 := hid (Ext.trans' hE1 hE2)
  have HDf := hid hdf
  have hcc := ckDisk_at 9 ((w.alloc (.cells #[.slice none 0 0, .slice none 0 0] 45)).alloc (.cells #[.int .i64 1, .string { data := #[] }, .slice (some ⟨w.heap.size, 0, none⟩) 1 1] 50))
  clear hE1 hE2 hcl hdf
  go_enter Tryz.func5, Tryz.ntmps5
  go_wp2_with fail
  generalize (w.alloc (.cells #[.slice none 0 0, .slice none 0 0] 45)).alloc (.cells #[.int .i64 1, .string { data := #[] }, .slice (some ⟨w.heap.size, 0, none⟩) 1 1] 50) = w2 at *
  refine hcc.mono ?_
  clear hcc hs1
  rintro e w3 ⟨d, m, rfl, hD, hE3⟩
  have hcc := ckLoadN_at hD (HDf.out.grow hE3) (by decide) 5
  have HE3 := hid (HE2.out.trans' hE3)
  clear hD hE3
  go_wp2_with fail
  refine hcc.mono ?_
  clear hcc
  rintro e w4 ⟨hE4, p, L, S, rfl, hS, hv⟩
  have HE4 := hid (HE3.out.trans' hE4)
  have hmn := setMany_at hS
  have hl : L.length = 1 := by rw [← viewP_len, hv]; rfl
  rw [hl] at hmn
  clear hS hv hE4 hl
  go_wp2_with fail
  refine hmn.mono ?_
  clear hmn
  rintro e wx ⟨rfl, hw⟩
  obtain rfl : w4 = wx := hw.symm
  clear hw
  go_wp2
  go_ret
  exact ⟨rfl, HE4.out⟩
set_option maxRecDepth 100000 in
theorem few_at {w : World} {K : Nat → Prop} {A : Option Addr} {n c : Nat} {ds : List DefV} (hx : SlR RDef w K A n c ds) :
    Calls Tryz.prog 6 #[.slice A n c] w fun e w' => (∃ n', e = .returned (.slice A n' c) ∧ n' ≤ 5 ∧ SlR RDef w K A n' c (ds.take 5)) ∧ w' = w := by
  have hn := hx.1
  have hnc := hx.2.1
  have hcm := hx.2.2.1
  go_enter Tryz.func6, Tryz.ntmps6
  by_cases h5 : 5 < n
  · have hlt : (5 : Int) < (n : Int) := by omega
    have H := hid (slR_take hx 5 (by omega))
    clear hx hn
    go_wp2
    go_ret
    exact ⟨⟨5, rfl, Nat.le_refl _, H.out⟩, rfl⟩
  · have hlt : ¬ ((5 : Int) < (n : Int)) := by omega
    have H := hid (show SlR RDef w K A n c (ds.take 5) by rw [List.take_of_length_le (by omega)]; exact hx)
    clear hx hn
    go_wp2
    go_ret
    exact ⟨⟨n, rfl, by omega, H.out⟩, rfl⟩
set_option maxRecDepth 100000 in
theorem states_at {w : World} {S : Nat → Prop} {p : Nat} {L : List Pc} (h : SetIs w S p L) (hf : PutFit (viewP L)) :
    Calls Tryz.prog 11 #[.pointer (some ⟨p, 0, none⟩)] w fun e w' => e = .returned (.string (str (setB (viewP L)))) ∧ Ext w w' := by
  have hcc := setPut_at h hf
  clear h hf
  go_enter Tryz.func11, Tryz.ntmps11
  go_wp2_with fail
  refine hcc.mono ?_
  clear hcc
  rintro e w' ⟨hE, v, rfl, hO⟩
  obtain ⟨A3, n3, c3, rfl, rfl, -, hr3⟩ := OB.rd hO
  have hs := run_str hr3 c3
  have HE := hid hE
  clear hO hr3 hE
  go_wp2
  go_ret
  exact ⟨rfl, HE.out⟩
end Go.Proofs.YtakebdeldndaaaaGreat

/- registrarref06.Same, registrarref07.SameDefs. -/
namespace Go.Proofs.YtakebdeldndaaaaGreat
open Go Go.RowKit
set_option linter.unusedSimpArgs false
set_option linter.unusedVariables false

deriving instance DecidableEq for ClV
deriving instance DecidableEq for DefV
theorem rows_txt_str {w : World} {K : Nat → Prop} : ∀ {xs : List Str} {cs : List Value}, Rows Rep.txt w K xs cs → Rows Rep.str w K xs cs
  | [], _, h => h
  | x :: xs, _, ⟨c, r, e, hc, hr⟩ => ⟨c, r, e, hc.1, rows_txt_str hr⟩
theorem txt_str {w : World} {K : Nat → Prop} {A : Option Addr} {n c : Nat} {xs : List Str} (h : SlR Rep.txt w K A n c xs) : SlR Rep.str w K A n c xs := by
  obtain ⟨h1, h2, h3, cs, hr, hv⟩ := h
  exact ⟨h1, h2, h3, cs, rows_txt_str hr, hv⟩
set_option maxRecDepth 100000 in
set_option maxHeartbeats 4000000 in
theorem refSameQ_at {w : World} {A B : Option Addr} {n c m d : Nat} {q s : List ClV} (hq : SlR RCl w (· < w.heap.size) A n c q) (hs : SlR RCl w (· < w.heap.size) B m d s) :
    Calls Tryz.prog 33 #[.agg #[.slice A n c], .agg #[.slice B m d]] w fun e w' => e = .returned (.bool (decide (q = s))) ∧ Ext w w' := by
  have hn := hid hq.1
  have hm := hid hs.1
  have hnc := hq.2.1
  have hmd := hs.2.1
  have hcm := hq.2.2.1
  have hdm := hs.2.2.1
  have hE1 := ext_alloc w (.cells #[.slice A n c] 48)
  have hs1 : (w.alloc (.cells #[.slice A n c] 48)).heap.size = w.heap.size + 1 := by simp
  have hE2 := ext_alloc (w.alloc (.cells #[.slice A n c] 48)) (.cells #[.slice B m d] 48)
  have HE2 := hid (Ext.trans' hE1 hE2)
  have HQ := hid (hq.grow HE2.out); have HS := hid (hs.grow HE2.out)
  have Hb1 := hid (show ((w.alloc (.cells #[.slice A n c] 48)).alloc (.cells #[.slice B m d] 48)).cell? ⟨w.heap.size, 0, none⟩ = some (.slice A n c) from cell_below hE2 (by rw [cell_of_row _ _ _ _ _ _ (heap_alloc_last w _)]; rfl))
  have Hb2 := hid (show ((w.alloc (.cells #[.slice A n c] 48)).alloc (.cells #[.slice B m d] 48)).cell? ⟨w.heap.size + 1, 0, none⟩ = some (.slice B m d) from by
    have h1 := heap_alloc_last (w.alloc (.cells #[.slice A n c] 48)) (.cells #[.slice B m d] 48)
    rw [hs1] at h1
    rw [cell_of_row _ _ _ _ _ _ h1]; rfl)
  have b1c := Hb1.out
  have b2c := Hb2.out
  clear hq hs hE1 hE2
  go_enter Tryz.func33, Tryz.ntmps33
  by_cases hnm : n = m
  rotate_left
  · have hres := hid (show decide (q = s) = false from decide_eq_false fun e => hnm (by rw [hn.out, hm.out, e]))
    have hne : ¬ ((n : Int) = (m : Int)) := by omega
    go_wp2
    go_ret
    exact ⟨by rw [hres.out]; rfl, HE2.out⟩
  subst hnm
  go_wp2_with fail
  clear b1c b2c
  generalize (w.alloc (.cells #[.slice A n c] 48)).alloc (.cells #[.slice B n d] 48) = w2 at *
  generalize w.heap.size = bq at *
  go_loopw [5] (fun i wr => ∃ k : Nat, k ≤ n ∧ i = .int .i64 (k : Int) ∧ Hid (Ext w2 wr) ∧ Hid (∀ j (hj : j < k) (h1 : j < q.length) (h2 : j < s.length), q[j] = s[j])) (fun i _ => n - (intOf i).toNat)
  case atStart => exact ⟨0, by omega, rfl, hid (Below.refl _ _), fun j hj => by omega⟩
  case round =>
    obtain ⟨k, hk, rfl, HE, HN⟩ := hrel
    have b1c := cell_below HE.out Hb1.out
    by_cases hlt : k < n
    · have hkx : k < q.length := by have := hn.out; omega
      have hky : k < s.length := by have := hm.out; omega
      have hlt' : (k : Int) < (n : Int) := by omega
      have hk00 : ¬ ((k : Int) < 0) := by omega
      have hk0 : (0 : Int) ≤ (k : Int) := by omega
      obtain ⟨b1, o1, T1, ta1, U1, ua1, rfl, -, f0, f1, hT1, hU1⟩ := cl_at HQ.out k hkx
      obtain ⟨b2, o2, T2, ta2, U2, ua2, rfl, -, g0, g1, hT2, hU2⟩ := cl_at HS.out k hky
      have Hnx := hid (show q[k] = s[k] → ∀ j (hj : j < k + 1) (h1 : j < q.length) (h2 : j < s.length), q[j] = s[j] from fun h0 j hj h1 h2 => by
        rcases Nat.lt_succ_iff_lt_or_eq.1 hj with h | rfl
        · exact HN.out j h h1 h2
        · exact h0)
      have Hno := hid (show q[k] ≠ s[k] → decide (q = s) = false from fun h0 => decide_eq_false fun e => h0 (by subst e; rfl))
      generalize q[k] = x at *
      generalize s[k] = y at *
      have HT1 := hid (txt_str hT1); have HT2 := hid (txt_str hT2); have HU1 := hid (txt_str hU1); have HU2 := hid (txt_str hU2)
      have Hf := hid (And.intro b1c (And.intro (cell_below HE.out Hb2.out) (And.intro (cell_below HE.out f0) (And.intro (cell_below HE.out f1) (And.intro (cell_below HE.out g0) (cell_below HE.out g1))))))
      clear hT1 hT2 hU1 hU2 f0 f1 g0 g1 HN
      generalize x.tags.length = n1 at *
      generalize y.tags.length = n2 at *
      generalize x.types.length = n3 at *
      generalize y.types.length = n4 at *
      go_wp2_with fail
      clear b1c
      apply wp_drawn [isV _, isV (.slice (some ⟨b1, o1, none⟩) n c), isV _, isV _, isV _, isV _, isV _, isV (.slice (some ⟨b2, o2, none⟩) n d), isV _, isV _, isV _, isV _, isV (.bool (decide (x.tags = y.tags))), isV _] (by kernel_rfl)
      · kernel_rfl
      · refine ⟨?ras0, ?ras1, ?ras2, ?ras3, ?ras4, ?ras5, ?ras6, ?ras7, ?ras8, ?ras9, ?ras10, ?ras11, ?ras12, ?ras13, trivial⟩
        case ras0 =>
          intro v W hE hd; simp only [Region.wanted, ↓reduceIte]; (try simp [deps, waitsOn, Region.binds, knowing, isV, ownsV, anyV] at hd); simp only [putAll, List.take_succ_cons, List.take_zero, List.drop_succ_cons, List.drop_zero, Act.put, List.setIfInBounds_toArray, List.set_cons_zero, List.set_cons_succ, Nat.zero_add, Nat.reduceAdd]; go_simp; exact ⟨Below.refl _ _, rfl⟩
        case ras1 =>
          intro v W hE hd; simp only [Region.wanted, ↓reduceIte]; (try simp [deps, waitsOn, Region.binds, knowing, isV, ownsV, anyV] at hd); simp only [putAll, List.take_succ_cons, List.take_zero, List.drop_succ_cons, List.drop_zero, Act.put, List.setIfInBounds_toArray, List.set_cons_zero, List.set_cons_succ, Nat.zero_add, Nat.reduceAdd]
          have g := cell_below hE Hf.out.1
          go_simp
          exact ⟨Below.refl _ _, rfl⟩
        case ras2 =>
          intro v W hE hd; simp only [Region.wanted, ↓reduceIte]; (try simp [deps, waitsOn, Region.binds, knowing, isV, ownsV, anyV] at hd); simp only [putAll, List.take_succ_cons, List.take_zero, List.drop_succ_cons, List.drop_zero, Act.put, List.setIfInBounds_toArray, List.set_cons_zero, List.set_cons_succ, Nat.zero_add, Nat.reduceAdd]; go_simp; exact ⟨Below.refl _ _, rfl⟩
        case ras3 =>
          intro v W hE hd; simp only [Region.wanted, ↓reduceIte]; (try simp [deps, waitsOn, Region.binds, knowing, isV, ownsV, anyV] at hd); simp only [putAll, List.take_succ_cons, List.take_zero, List.drop_succ_cons, List.drop_zero, Act.put, List.setIfInBounds_toArray, List.set_cons_zero, List.set_cons_succ, Nat.zero_add, Nat.reduceAdd]; go_simp; exact ⟨Below.refl _ _, rfl⟩
        case ras4 =>
          intro v W hE hd; simp only [Region.wanted, ↓reduceIte]; (try simp [deps, waitsOn, Region.binds, knowing, isV, ownsV, anyV] at hd); simp only [putAll, List.take_succ_cons, List.take_zero, List.drop_succ_cons, List.drop_zero, Act.put, List.setIfInBounds_toArray, List.set_cons_zero, List.set_cons_succ, Nat.zero_add, Nat.reduceAdd]; go_simp; exact ⟨Below.refl _ _, rfl⟩
        case ras5 =>
          intro v W hE hd; simp only [Region.wanted, ↓reduceIte]; (try simp [deps, waitsOn, Region.binds, knowing, isV, ownsV, anyV] at hd); simp only [putAll, List.take_succ_cons, List.take_zero, List.drop_succ_cons, List.drop_zero, Act.put, List.setIfInBounds_toArray, List.set_cons_zero, List.set_cons_succ, Nat.zero_add, Nat.reduceAdd]
          have g := cell_below hE Hf.out.2.2.1
          go_simp
          exact ⟨Below.refl _ _, rfl⟩
        case ras6 =>
          intro v W hE hd; simp only [Region.wanted, ↓reduceIte]; (try simp [deps, waitsOn, Region.binds, knowing, isV, ownsV, anyV] at hd); simp only [putAll, List.take_succ_cons, List.take_zero, List.drop_succ_cons, List.drop_zero, Act.put, List.setIfInBounds_toArray, List.set_cons_zero, List.set_cons_succ, Nat.zero_add, Nat.reduceAdd]; go_simp; exact ⟨Below.refl _ _, rfl⟩
        case ras7 =>
          intro v W hE hd; simp only [Region.wanted, ↓reduceIte]; (try simp [deps, waitsOn, Region.binds, knowing, isV, ownsV, anyV] at hd); simp only [putAll, List.take_succ_cons, List.take_zero, List.drop_succ_cons, List.drop_zero, Act.put, List.setIfInBounds_toArray, List.set_cons_zero, List.set_cons_succ, Nat.zero_add, Nat.reduceAdd]
          have g := cell_below hE Hf.out.2.1
          go_simp
          exact ⟨Below.refl _ _, rfl⟩
        case ras8 =>
          intro v W hE hd; simp only [Region.wanted, ↓reduceIte]; (try simp [deps, waitsOn, Region.binds, knowing, isV, ownsV, anyV] at hd); simp only [putAll, List.take_succ_cons, List.take_zero, List.drop_succ_cons, List.drop_zero, Act.put, List.setIfInBounds_toArray, List.set_cons_zero, List.set_cons_succ, Nat.zero_add, Nat.reduceAdd]; go_simp; exact ⟨Below.refl _ _, rfl⟩
        case ras9 =>
          intro v W hE hd; simp only [Region.wanted, ↓reduceIte]; (try simp [deps, waitsOn, Region.binds, knowing, isV, ownsV, anyV] at hd); simp only [putAll, List.take_succ_cons, List.take_zero, List.drop_succ_cons, List.drop_zero, Act.put, List.setIfInBounds_toArray, List.set_cons_zero, List.set_cons_succ, Nat.zero_add, Nat.reduceAdd]; go_simp; exact ⟨Below.refl _ _, rfl⟩
        case ras10 =>
          intro v W hE hd; simp only [Region.wanted, ↓reduceIte]; (try simp [deps, waitsOn, Region.binds, knowing, isV, ownsV, anyV] at hd); simp only [putAll, List.take_succ_cons, List.take_zero, List.drop_succ_cons, List.drop_zero, Act.put, List.setIfInBounds_toArray, List.set_cons_zero, List.set_cons_succ, Nat.zero_add, Nat.reduceAdd]; go_simp; exact ⟨Below.refl _ _, rfl⟩
        case ras11 =>
          intro v W hE hd; simp only [Region.wanted, ↓reduceIte]; (try simp [deps, waitsOn, Region.binds, knowing, isV, ownsV, anyV] at hd); simp only [putAll, List.take_succ_cons, List.take_zero, List.drop_succ_cons, List.drop_zero, Act.put, List.setIfInBounds_toArray, List.set_cons_zero, List.set_cons_succ, Nat.zero_add, Nat.reduceAdd]
          have g := cell_below hE Hf.out.2.2.2.2.1
          go_simp
          exact ⟨Below.refl _ _, rfl⟩
        case ras12 =>
          intro v W hE hd; simp only [Region.wanted, ↓reduceIte]; (try simp [deps, waitsOn, Region.binds, knowing, isV, ownsV, anyV] at hd); simp only [putAll, List.take_succ_cons, List.take_zero, List.drop_succ_cons, List.drop_zero, Act.put, List.setIfInBounds_toArray, List.set_cons_zero, List.set_cons_succ, Nat.zero_add, Nat.reduceAdd]
          have hcc := texts_at (HT1.out.ext fun k hk => (HE.out.trans' hE).block k hk) (HT2.out.ext fun k hk => (HE.out.trans' hE).block k hk)
          go_simp
          refine hcc.mono ?_
          clear hcc
          rintro e w' ⟨rfl, hE2⟩
          have HE2' := hid hE2
          clear hE2
          go_simp
          exact ⟨HE2'.out, rfl⟩
        case ras13 =>
          intro v W hE hd; simp only [Region.wanted, ↓reduceIte]; (try simp [deps, waitsOn, Region.binds, knowing, isV, ownsV, anyV] at hd); simp only [putAll, List.take_succ_cons, List.take_zero, List.drop_succ_cons, List.drop_zero, Act.put, List.setIfInBounds_toArray, List.set_cons_zero, List.set_cons_succ, Nat.zero_add, Nat.reduceAdd]; go_simp; exact ⟨Below.refl _ _, rfl⟩
      · rintro v W9 hE ⟨-, -, -, -, -, -, -, -, -, -, -, -, -, e13, -⟩
        have e13 := (show v 13 = _ from e13)
        simp only [putAll, List.take_succ_cons, List.take_zero, List.drop_succ_cons, List.drop_zero, Act.put, List.setIfInBounds_toArray, List.set_cons_zero, List.set_cons_succ, Nat.zero_add, Nat.reduceAdd]
        rw [e13]
        have HEa := hid (HE.out.trans' hE)
        have Hf := hid (And.intro (cell_below hE Hf.out.1) (And.intro (cell_below hE Hf.out.2.1) (And.intro (cell_below hE Hf.out.2.2.1) (And.intro (cell_below hE Hf.out.2.2.2.1) (And.intro (cell_below hE Hf.out.2.2.2.2.1) (cell_below hE Hf.out.2.2.2.2.2))))))
        clear e13 hE
        go_wp2_with fail
        apply wp_drawn [isV _, isV (.slice (some ⟨b1, o1, none⟩) n c), isV _, isV _, isV _, isV _, isV _, isV (.slice (some ⟨b2, o2, none⟩) n d), isV _, isV _, isV _, isV _, isV (.bool (decide (x.types = y.types))), isV _] (by kernel_rfl)
        · kernel_rfl
        · refine ⟨?rbs0, ?rbs1, ?rbs2, ?rbs3, ?rbs4, ?rbs5, ?rbs6, ?rbs7, ?rbs8, ?rbs9, ?rbs10, ?rbs11, ?rbs12, ?rbs13, trivial⟩
          case rbs0 =>
            intro v W hE hd; simp only [Region.wanted, ↓reduceIte]; (try simp [deps, waitsOn, Region.binds, knowing, isV, ownsV, anyV] at hd); simp only [putAll, List.take_succ_cons, List.take_zero, List.drop_succ_cons, List.drop_zero, Act.put, List.setIfInBounds_toArray, List.set_cons_zero, List.set_cons_succ, Nat.zero_add, Nat.reduceAdd]; go_simp; exact ⟨Below.refl _ _, rfl⟩
          case rbs1 =>
            intro v W hE hd; simp only [Region.wanted, ↓reduceIte]; (try simp [deps, waitsOn, Region.binds, knowing, isV, ownsV, anyV] at hd); simp only [putAll, List.take_succ_cons, List.take_zero, List.drop_succ_cons, List.drop_zero, Act.put, List.setIfInBounds_toArray, List.set_cons_zero, List.set_cons_succ, Nat.zero_add, Nat.reduceAdd]
            have g := cell_below hE Hf.out.1
            go_simp
            exact ⟨Below.refl _ _, rfl⟩
          case rbs2 =>
            intro v W hE hd; simp only [Region.wanted, ↓reduceIte]; (try simp [deps, waitsOn, Region.binds, knowing, isV, ownsV, anyV] at hd); simp only [putAll, List.take_succ_cons, List.take_zero, List.drop_succ_cons, List.drop_zero, Act.put, List.setIfInBounds_toArray, List.set_cons_zero, List.set_cons_succ, Nat.zero_add, Nat.reduceAdd]; go_simp; exact ⟨Below.refl _ _, rfl⟩
          case rbs3 =>
            intro v W hE hd; simp only [Region.wanted, ↓reduceIte]; (try simp [deps, waitsOn, Region.binds, knowing, isV, ownsV, anyV] at hd); simp only [putAll, List.take_succ_cons, List.take_zero, List.drop_succ_cons, List.drop_zero, Act.put, List.setIfInBounds_toArray, List.set_cons_zero, List.set_cons_succ, Nat.zero_add, Nat.reduceAdd]; go_simp; exact ⟨Below.refl _ _, rfl⟩
          case rbs4 =>
            intro v W hE hd; simp only [Region.wanted, ↓reduceIte]; (try simp [deps, waitsOn, Region.binds, knowing, isV, ownsV, anyV] at hd); simp only [putAll, List.take_succ_cons, List.take_zero, List.drop_succ_cons, List.drop_zero, Act.put, List.setIfInBounds_toArray, List.set_cons_zero, List.set_cons_succ, Nat.zero_add, Nat.reduceAdd]; go_simp; exact ⟨Below.refl _ _, rfl⟩
          case rbs5 =>
            intro v W hE hd; simp only [Region.wanted, ↓reduceIte]; (try simp [deps, waitsOn, Region.binds, knowing, isV, ownsV, anyV] at hd); simp only [putAll, List.take_succ_cons, List.take_zero, List.drop_succ_cons, List.drop_zero, Act.put, List.setIfInBounds_toArray, List.set_cons_zero, List.set_cons_succ, Nat.zero_add, Nat.reduceAdd]
            have g := cell_below hE Hf.out.2.2.2.1
            go_simp
            exact ⟨Below.refl _ _, rfl⟩
          case rbs6 =>
            intro v W hE hd; simp only [Region.wanted, ↓reduceIte]; (try simp [deps, waitsOn, Region.binds, knowing, isV, ownsV, anyV] at hd); simp only [putAll, List.take_succ_cons, List.take_zero, List.drop_succ_cons, List.drop_zero, Act.put, List.setIfInBounds_toArray, List.set_cons_zero, List.set_cons_succ, Nat.zero_add, Nat.reduceAdd]; go_simp; exact ⟨Below.refl _ _, rfl⟩
          case rbs7 =>
            intro v W hE hd; simp only [Region.wanted, ↓reduceIte]; (try simp [deps, waitsOn, Region.binds, knowing, isV, ownsV, anyV] at hd); simp only [putAll, List.take_succ_cons, List.take_zero, List.drop_succ_cons, List.drop_zero, Act.put, List.setIfInBounds_toArray, List.set_cons_zero, List.set_cons_succ, Nat.zero_add, Nat.reduceAdd]
            have g := cell_below hE Hf.out.2.1
            go_simp
            exact ⟨Below.refl _ _, rfl⟩
          case rbs8 =>
            intro v W hE hd; simp only [Region.wanted, ↓reduceIte]; (try simp [deps, waitsOn, Region.binds, knowing, isV, ownsV, anyV] at hd); simp only [putAll, List.take_succ_cons, List.take_zero, List.drop_succ_cons, List.drop_zero, Act.put, List.setIfInBounds_toArray, List.set_cons_zero, List.set_cons_succ, Nat.zero_add, Nat.reduceAdd]; go_simp; exact ⟨Below.refl _ _, rfl⟩
          case rbs9 =>
            intro v W hE hd; simp only [Region.wanted, ↓reduceIte]; (try simp [deps, waitsOn, Region.binds, knowing, isV, ownsV, anyV] at hd); simp only [putAll, List.take_succ_cons, List.take_zero, List.drop_succ_cons, List.drop_zero, Act.put, List.setIfInBounds_toArray, List.set_cons_zero, List.set_cons_succ, Nat.zero_add, Nat.reduceAdd]; go_simp; exact ⟨Below.refl _ _, rfl⟩
          case rbs10 =>
            intro v W hE hd; simp only [Region.wanted, ↓reduceIte]; (try simp [deps, waitsOn, Region.binds, knowing, isV, ownsV, anyV] at hd); simp only [putAll, List.take_succ_cons, List.take_zero, List.drop_succ_cons, List.drop_zero, Act.put, List.setIfInBounds_toArray, List.set_cons_zero, List.set_cons_succ, Nat.zero_add, Nat.reduceAdd]; go_simp; exact ⟨Below.refl _ _, rfl⟩
          case rbs11 =>
            intro v W hE hd; simp only [Region.wanted, ↓reduceIte]; (try simp [deps, waitsOn, Region.binds, knowing, isV, ownsV, anyV] at hd); simp only [putAll, List.take_succ_cons, List.take_zero, List.drop_succ_cons, List.drop_zero, Act.put, List.setIfInBounds_toArray, List.set_cons_zero, List.set_cons_succ, Nat.zero_add, Nat.reduceAdd]
            have g := cell_below hE Hf.out.2.2.2.2.2
            go_simp
            exact ⟨Below.refl _ _, rfl⟩
          case rbs12 =>
            intro v W hE hd; simp only [Region.wanted, ↓reduceIte]; (try simp [deps, waitsOn, Region.binds, knowing, isV, ownsV, anyV] at hd); simp only [putAll, List.take_succ_cons, List.take_zero, List.drop_succ_cons, List.drop_zero, Act.put, List.setIfInBounds_toArray, List.set_cons_zero, List.set_cons_succ, Nat.zero_add, Nat.reduceAdd]
            have hcc := texts_at (HU1.out.ext fun k hk => (HEa.out.trans' hE).block k hk) (HU2.out.ext fun k hk => (HEa.out.trans' hE).block k hk)
            go_simp
            refine hcc.mono ?_
            clear hcc
            rintro e w' ⟨rfl, hE2⟩
            have HE2' := hid hE2
            clear hE2
            go_simp
            exact ⟨HE2'.out, rfl⟩
          case rbs13 =>
            intro v W hE hd; simp only [Region.wanted, ↓reduceIte]; (try simp [deps, waitsOn, Region.binds, knowing, isV, ownsV, anyV] at hd); simp only [putAll, List.take_succ_cons, List.take_zero, List.drop_succ_cons, List.drop_zero, Act.put, List.setIfInBounds_toArray, List.set_cons_zero, List.set_cons_succ, Nat.zero_add, Nat.reduceAdd]; go_simp; exact ⟨Below.refl _ _, rfl⟩
        · rintro v W9 hE ⟨-, -, -, -, -, -, -, -, -, -, -, -, -, e13, -⟩
          have e13 := (show v 13 = _ from e13)
          simp only [putAll, List.take_succ_cons, List.take_zero, List.drop_succ_cons, List.drop_zero, Act.put, List.setIfInBounds_toArray, List.set_cons_zero, List.set_cons_succ, Nat.zero_add, Nat.reduceAdd]
          rw [e13]
          have HEb := hid (HEa.out.trans' hE)
          clear e13 hE
          by_cases h1 : x.tags = y.tags
          · by_cases h2 : x.types = y.types
            · have hxy : x = y := by
                obtain ⟨a, b⟩ := x
                obtain ⟨a', b'⟩ := y
                dsimp only at h1 h2
                rw [h1, h2]
              have hn2 := hid (Hnx.out hxy)
              rw [decide_eq_true h1, decide_eq_true h2]
              clear h1 h2 hxy Hnx Hno
              go_wp2_with fail
              go_roundw
              case rel => exact ⟨k + 1, by omega, by go_num, HEb, hn2⟩
              case measure => simp [intOf]; omega
            · have hres := hid (Hno.out fun e => h2 (by rw [e]))
              rw [decide_eq_true h1, decide_eq_false h2]
              clear h1 h2 Hnx Hno
              go_wp2
              go_ret
              exact ⟨by rw [hres.out]; rfl, HE2.out.trans' HEb.out⟩
          · have hres := hid (Hno.out fun e => h1 (by rw [e]))
            rw [decide_eq_false h1]
            clear h1 Hnx Hno
            generalize decide (x.types = y.types) = z at *
            go_wp2
            go_ret
            exact ⟨by rw [hres.out]; rfl, HE2.out.trans' HEb.out⟩
    · obtain rfl : k = n := by omega
      have hres := hid (show decide (q = s) = true from decide_eq_true (List.ext_getElem (by rw [← hn.out, ← hm.out]) fun j h1 h2 => HN.out j (by have := hn.out; omega) h1 h2))
      have hlt' : ¬ ((k : Int) < (k : Int)) := by omega
      go_wp2
      go_ret
      exact ⟨by rw [hres.out]; rfl, HE2.out.trans' HE.out⟩
end Go.Proofs.YtakebdeldndaaaaGreat

/- registrarref07.SameDefs. (Printed by tools/gen_samedefs.py.) -/
namespace Go.Proofs.YtakebdeldndaaaaGreat
open Go Go.RowKit
set_option linter.unusedSimpArgs false
set_option linter.unusedVariables false

set_option maxRecDepth 100000 in
set_option maxHeartbeats 8000000 in
theorem refSameDefs_at {w : World} {A B : Option Addr} {n c m d : Nat} {ds es : List DefV} (hq : SlR RDef w (· < w.heap.size) A n c ds) (hs : SlR RDef w (· < w.heap.size) B m d es) :
    Calls Tryz.prog 10 #[.slice A n c, .slice B m d] w fun e w' => e = .returned (.bool (decide (ds = es))) ∧ Ext w w' := by
  have hn := hid hq.1
  have hm := hid hs.1
  have hnc := hq.2.1
  have hmd := hs.2.1
  have hcm := hq.2.2.1
  have hdm := hs.2.2.1
  have HQ := hid hq; have HS := hid hs
  clear hq hs
  go_enter Tryz.func10, Tryz.ntmps10
  by_cases hnm : n = m
  rotate_left
  · have hres := hid (show decide (ds = es) = false from decide_eq_false fun e => hnm (by rw [hn.out, hm.out, e]))
    have hne : ¬ ((n : Int) = (m : Int)) := by omega
    go_wp2
    go_ret
    exact ⟨by rw [hres.out]; rfl, Below.refl _ _⟩
  subst hnm
  go_wp2_with fail
  go_loopw [5] (fun i wr => ∃ k : Nat, k ≤ n ∧ i = .int .i64 (k : Int) ∧ Hid (Ext w wr) ∧ Hid (∀ j (hj : j < k) (h1 : j < ds.length) (h2 : j < es.length), ds[j] = es[j])) (fun i _ => n - (intOf i).toNat)
  case atStart => exact ⟨0, by omega, rfl, hid (Below.refl _ _), fun j hj => by omega⟩
  case round =>
    obtain ⟨k, hk, rfl, HE, HN⟩ := hrel
    by_cases hlt : k < n
    · have hkx : k < ds.length := by have := hn.out; omega
      have hky : k < es.length := by have := hm.out; omega
      have hlt' : (k : Int) < (n : Int) := by omega
      have hk00 : ¬ ((k : Int) < 0) := by omega
      have hk0 : (0 : Int) ≤ (k : Int) := by omega
      obtain ⟨b1, o1, B1, d1, rfl, -, f0, f1, f2, -, hq1⟩ := def_at (HQ.out.grow HE.out) k hkx
      obtain ⟨b2, o2, B2, d2, rfl, -, g0, g1, g2, -, hq2⟩ := def_at (HS.out.grow HE.out) k hky
      have Hnx := hid (show ds[k] = es[k] → ∀ j (hj : j < k + 1) (h1 : j < ds.length) (h2 : j < es.length), ds[j] = es[j] from fun h0 j hj h1 h2 => by
        rcases Nat.lt_succ_iff_lt_or_eq.1 hj with h | rfl
        · exact HN.out j h h1 h2
        · exact h0)
      have Hno := hid (show ds[k] ≠ es[k] → decide (ds = es) = false from fun h0 => decide_eq_false fun e => h0 (by subst e; rfl))
      generalize ds[k] = x at *
      generalize es[k] = y at *
      have HQ1 := hid hq1; have HQ2 := hid hq2
      have Hf2 := hid (And.intro f2 g2)
      have Hf0 := hid (And.intro f0 (And.intro g0 (And.intro f1 g1)))
      clear hq1 hq2 f0 f1 f2 g0 g1 g2 HN
      generalize x.q.length = n1 at *
      generalize y.q.length = n2 at *
      go_wp2_with fail
      apply wp_drawn [isV _, isV _, isV _, isV _, isV (.agg #[.slice B1 n1 d1]), isV _, isV _, isV _, isV _, isV (.agg #[.slice B2 n2 d2]), isV (.bool (decide (x.q = y.q))), isV _] (by kernel_rfl)
      · kernel_rfl
      · refine ⟨?sqs0, ?sqs1, ?sqs2, ?sqs3, ?sqs4, ?sqs5, ?sqs6, ?sqs7, ?sqs8, ?sqs9, ?sqs10, ?sqs11, trivial⟩
        case sqs0 =>
          intro v W hE hd; simp only [Region.wanted, ↓reduceIte]; (try simp [deps, waitsOn, Region.binds, knowing, isV, ownsV, anyV] at hd); simp only [putAll, List.take_succ_cons, List.take_zero, List.drop_succ_cons, List.drop_zero, Act.put, List.setIfInBounds_toArray, List.set_cons_zero, List.set_cons_succ, Nat.zero_add, Nat.reduceAdd]; go_simp; exact ⟨Below.refl _ _, rfl⟩
        case sqs1 =>
          intro v W hE hd; simp only [Region.wanted, ↓reduceIte]; (try simp [deps, waitsOn, Region.binds, knowing, isV, ownsV, anyV] at hd); simp only [putAll, List.take_succ_cons, List.take_zero, List.drop_succ_cons, List.drop_zero, Act.put, List.setIfInBounds_toArray, List.set_cons_zero, List.set_cons_succ, Nat.zero_add, Nat.reduceAdd]; go_simp; exact ⟨Below.refl _ _, rfl⟩
        case sqs2 =>
          intro v W hE hd; simp only [Region.wanted, ↓reduceIte]; (try simp [deps, waitsOn, Region.binds, knowing, isV, ownsV, anyV] at hd); simp only [putAll, List.take_succ_cons, List.take_zero, List.drop_succ_cons, List.drop_zero, Act.put, List.setIfInBounds_toArray, List.set_cons_zero, List.set_cons_succ, Nat.zero_add, Nat.reduceAdd]; go_simp; exact ⟨Below.refl _ _, rfl⟩
        case sqs3 =>
          intro v W hE hd; simp only [Region.wanted, ↓reduceIte]; (try simp [deps, waitsOn, Region.binds, knowing, isV, ownsV, anyV] at hd); simp only [putAll, List.take_succ_cons, List.take_zero, List.drop_succ_cons, List.drop_zero, Act.put, List.setIfInBounds_toArray, List.set_cons_zero, List.set_cons_succ, Nat.zero_add, Nat.reduceAdd]; go_simp; exact ⟨Below.refl _ _, rfl⟩
        case sqs4 =>
          intro v W hE hd; simp only [Region.wanted, ↓reduceIte]; (try simp [deps, waitsOn, Region.binds, knowing, isV, ownsV, anyV] at hd); simp only [putAll, List.take_succ_cons, List.take_zero, List.drop_succ_cons, List.drop_zero, Act.put, List.setIfInBounds_toArray, List.set_cons_zero, List.set_cons_succ, Nat.zero_add, Nat.reduceAdd]
          have g := cell_below hE Hf2.out.1
          go_simp
          exact ⟨Below.refl _ _, rfl⟩
        case sqs5 =>
          intro v W hE hd; simp only [Region.wanted, ↓reduceIte]; (try simp [deps, waitsOn, Region.binds, knowing, isV, ownsV, anyV] at hd); simp only [putAll, List.take_succ_cons, List.take_zero, List.drop_succ_cons, List.drop_zero, Act.put, List.setIfInBounds_toArray, List.set_cons_zero, List.set_cons_succ, Nat.zero_add, Nat.reduceAdd]; go_simp; exact ⟨Below.refl _ _, rfl⟩
        case sqs6 =>
          intro v W hE hd; simp only [Region.wanted, ↓reduceIte]; (try simp [deps, waitsOn, Region.binds, knowing, isV, ownsV, anyV] at hd); simp only [putAll, List.take_succ_cons, List.take_zero, List.drop_succ_cons, List.drop_zero, Act.put, List.setIfInBounds_toArray, List.set_cons_zero, List.set_cons_succ, Nat.zero_add, Nat.reduceAdd]; go_simp; exact ⟨Below.refl _ _, rfl⟩
        case sqs7 =>
          intro v W hE hd; simp only [Region.wanted, ↓reduceIte]; (try simp [deps, waitsOn, Region.binds, knowing, isV, ownsV, anyV] at hd); simp only [putAll, List.take_succ_cons, List.take_zero, List.drop_succ_cons, List.drop_zero, Act.put, List.setIfInBounds_toArray, List.set_cons_zero, List.set_cons_succ, Nat.zero_add, Nat.reduceAdd]; go_simp; exact ⟨Below.refl _ _, rfl⟩
        case sqs8 =>
          intro v W hE hd; simp only [Region.wanted, ↓reduceIte]; (try simp [deps, waitsOn, Region.binds, knowing, isV, ownsV, anyV] at hd); simp only [putAll, List.take_succ_cons, List.take_zero, List.drop_succ_cons, List.drop_zero, Act.put, List.setIfInBounds_toArray, List.set_cons_zero, List.set_cons_succ, Nat.zero_add, Nat.reduceAdd]; go_simp; exact ⟨Below.refl _ _, rfl⟩
        case sqs9 =>
          intro v W hE hd; simp only [Region.wanted, ↓reduceIte]; (try simp [deps, waitsOn, Region.binds, knowing, isV, ownsV, anyV] at hd); simp only [putAll, List.take_succ_cons, List.take_zero, List.drop_succ_cons, List.drop_zero, Act.put, List.setIfInBounds_toArray, List.set_cons_zero, List.set_cons_succ, Nat.zero_add, Nat.reduceAdd]
          have g := cell_below hE Hf2.out.2
          go_simp
          exact ⟨Below.refl _ _, rfl⟩
        case sqs10 =>
          intro v W hE hd; simp only [Region.wanted, ↓reduceIte]; (try simp [deps, waitsOn, Region.binds, knowing, isV, ownsV, anyV] at hd); simp only [putAll, List.take_succ_cons, List.take_zero, List.drop_succ_cons, List.drop_zero, Act.put, List.setIfInBounds_toArray, List.set_cons_zero, List.set_cons_succ, Nat.zero_add, Nat.reduceAdd]
          have hcc := refSameQ_at (HQ1.out.grow hE) (HQ2.out.grow hE)
          go_simp
          refine hcc.mono ?_
          clear hcc
          rintro e w' ⟨rfl, hE2⟩
          have HE2' := hid hE2
          clear hE2
          go_simp
          exact ⟨HE2'.out, rfl⟩
        case sqs11 =>
          intro v W hE hd; simp only [Region.wanted, ↓reduceIte]; (try simp [deps, waitsOn, Region.binds, knowing, isV, ownsV, anyV] at hd); simp only [putAll, List.take_succ_cons, List.take_zero, List.drop_succ_cons, List.drop_zero, Act.put, List.setIfInBounds_toArray, List.set_cons_zero, List.set_cons_succ, Nat.zero_add, Nat.reduceAdd]; go_simp; exact ⟨Below.refl _ _, rfl⟩
      · rintro v W9 hE ⟨-, -, -, -, -, -, -, -, -, -, -, e11, -⟩
        have e11 := (show v 11 = _ from e11)
        simp only [putAll, List.take_succ_cons, List.take_zero, List.drop_succ_cons, List.drop_zero, Act.put, List.setIfInBounds_toArray, List.set_cons_zero, List.set_cons_succ, Nat.zero_add, Nat.reduceAdd]
        rw [e11]
        have HEa := hid (HE.out.trans' hE)
        have Hf := hid (And.intro (cell_below hE Hf0.out.1) (And.intro (cell_below hE Hf0.out.2.1) (And.intro (cell_below hE Hf0.out.2.2.1) (cell_below hE Hf0.out.2.2.2))))
        clear e11 hE Hf0 Hf2
        obtain ⟨xk, xf, xq⟩ := x
        obtain ⟨yk, yf, yq⟩ := y
        dsimp only at Hf Hno Hnx ⊢
        by_cases h1 : xk = yk
        rotate_left
        · have hres := hid (Hno.out fun e => h1 (by injection e))
          generalize decide (xq = yq) = z at *
          have h1' : (xk != yk) = true := by simpa using h1
          have h1'' : (xk == yk) = false := by simpa using h1
          clear h1 Hnx Hno
          go_wp2_with fail
          apply wp_drawn [isV _, isV _, isV _, isV _, isV _, isV _, isV _, isV _, isV _, isV _, isV (.bool true), isV _, anyV, anyV, anyV, anyV, anyV, anyV, anyV, anyV, anyV, anyV, anyV, isV _, isV _, anyV, anyV, isV _] (by kernel_rfl)
          · kernel_rfl
          · refine ⟨?sas0, ?sas1, ?sas2, ?sas3, ?sas4, ?sas5, ?sas6, ?sas7, ?sas8, ?sas9, ?sas10, ?sas11, ?sas12, ?sas13, ?sas14, ?sas15, ?sas16, ?sas17, ?sas18, ?sas19, ?sas20, ?sas21, ?sas22, ?sas23, ?sas24, ?sas25, ?sas26, ?sas27, trivial⟩
            case sas0 =>
              intro v W hE hd; simp only [Region.wanted, ↓reduceIte]; (try simp [deps, waitsOn, Region.binds, knowing, isV, ownsV, anyV] at hd); simp only [putAll, List.take_succ_cons, List.take_zero, List.drop_succ_cons, List.drop_zero, Act.put, List.setIfInBounds_toArray, List.set_cons_zero, List.set_cons_succ, Nat.zero_add, Nat.reduceAdd]; go_simp; exact ⟨Below.refl _ _, rfl⟩
            case sas1 =>
              intro v W hE hd; simp only [Region.wanted, ↓reduceIte]; (try simp [deps, waitsOn, Region.binds, knowing, isV, ownsV, anyV] at hd); simp only [putAll, List.take_succ_cons, List.take_zero, List.drop_succ_cons, List.drop_zero, Act.put, List.setIfInBounds_toArray, List.set_cons_zero, List.set_cons_succ, Nat.zero_add, Nat.reduceAdd]; go_simp; exact ⟨Below.refl _ _, rfl⟩
            case sas2 =>
              intro v W hE hd; simp only [Region.wanted, ↓reduceIte]; (try simp [deps, waitsOn, Region.binds, knowing, isV, ownsV, anyV] at hd); simp only [putAll, List.take_succ_cons, List.take_zero, List.drop_succ_cons, List.drop_zero, Act.put, List.setIfInBounds_toArray, List.set_cons_zero, List.set_cons_succ, Nat.zero_add, Nat.reduceAdd]; go_simp; exact ⟨Below.refl _ _, rfl⟩
            case sas3 =>
              intro v W hE hd; simp only [Region.wanted, ↓reduceIte]; (try simp [deps, waitsOn, Region.binds, knowing, isV, ownsV, anyV] at hd); simp only [putAll, List.take_succ_cons, List.take_zero, List.drop_succ_cons, List.drop_zero, Act.put, List.setIfInBounds_toArray, List.set_cons_zero, List.set_cons_succ, Nat.zero_add, Nat.reduceAdd]; go_simp; exact ⟨Below.refl _ _, rfl⟩
            case sas4 =>
              intro v W hE hd; simp only [Region.wanted, ↓reduceIte]; (try simp [deps, waitsOn, Region.binds, knowing, isV, ownsV, anyV] at hd); simp only [putAll, List.take_succ_cons, List.take_zero, List.drop_succ_cons, List.drop_zero, Act.put, List.setIfInBounds_toArray, List.set_cons_zero, List.set_cons_succ, Nat.zero_add, Nat.reduceAdd]
              have g := cell_below hE Hf.out.1
              go_simp
              exact ⟨Below.refl _ _, rfl⟩
            case sas5 =>
              intro v W hE hd; simp only [Region.wanted, ↓reduceIte]; (try simp [deps, waitsOn, Region.binds, knowing, isV, ownsV, anyV] at hd); simp only [putAll, List.take_succ_cons, List.take_zero, List.drop_succ_cons, List.drop_zero, Act.put, List.setIfInBounds_toArray, List.set_cons_zero, List.set_cons_succ, Nat.zero_add, Nat.reduceAdd]; go_simp; exact ⟨Below.refl _ _, rfl⟩
            case sas6 =>
              intro v W hE hd; simp only [Region.wanted, ↓reduceIte]; (try simp [deps, waitsOn, Region.binds, knowing, isV, ownsV, anyV] at hd); simp only [putAll, List.take_succ_cons, List.take_zero, List.drop_succ_cons, List.drop_zero, Act.put, List.setIfInBounds_toArray, List.set_cons_zero, List.set_cons_succ, Nat.zero_add, Nat.reduceAdd]; go_simp; exact ⟨Below.refl _ _, rfl⟩
            case sas7 =>
              intro v W hE hd; simp only [Region.wanted, ↓reduceIte]; (try simp [deps, waitsOn, Region.binds, knowing, isV, ownsV, anyV] at hd); simp only [putAll, List.take_succ_cons, List.take_zero, List.drop_succ_cons, List.drop_zero, Act.put, List.setIfInBounds_toArray, List.set_cons_zero, List.set_cons_succ, Nat.zero_add, Nat.reduceAdd]; go_simp; exact ⟨Below.refl _ _, rfl⟩
            case sas8 =>
              intro v W hE hd; simp only [Region.wanted, ↓reduceIte]; (try simp [deps, waitsOn, Region.binds, knowing, isV, ownsV, anyV] at hd); simp only [putAll, List.take_succ_cons, List.take_zero, List.drop_succ_cons, List.drop_zero, Act.put, List.setIfInBounds_toArray, List.set_cons_zero, List.set_cons_succ, Nat.zero_add, Nat.reduceAdd]; go_simp; exact ⟨Below.refl _ _, rfl⟩
            case sas9 =>
              intro v W hE hd; simp only [Region.wanted, ↓reduceIte]; (try simp [deps, waitsOn, Region.binds, knowing, isV, ownsV, anyV] at hd); simp only [putAll, List.take_succ_cons, List.take_zero, List.drop_succ_cons, List.drop_zero, Act.put, List.setIfInBounds_toArray, List.set_cons_zero, List.set_cons_succ, Nat.zero_add, Nat.reduceAdd]
              have g := cell_below hE Hf.out.2.1
              go_simp
              exact ⟨Below.refl _ _, rfl⟩
            case sas10 =>
              intro v W hE hd; simp only [Region.wanted, ↓reduceIte]; (try simp [deps, waitsOn, Region.binds, knowing, isV, ownsV, anyV] at hd); simp only [putAll, List.take_succ_cons, List.take_zero, List.drop_succ_cons, List.drop_zero, Act.put, List.setIfInBounds_toArray, List.set_cons_zero, List.set_cons_succ, Nat.zero_add, Nat.reduceAdd]
              go_simp
              exact ⟨Below.refl _ _, rfl⟩
            case sas11 =>
              intro v W hE hd; simp only [Region.wanted, ↓reduceIte]; (try simp [deps, waitsOn, Region.binds, knowing, isV, ownsV, anyV] at hd); simp only [putAll, List.take_succ_cons, List.take_zero, List.drop_succ_cons, List.drop_zero, Act.put, List.setIfInBounds_toArray, List.set_cons_zero, List.set_cons_succ, Nat.zero_add, Nat.reduceAdd]; go_simp; exact ⟨Below.refl _ _, rfl⟩
            case sas12 =>
              intro v W hE hd; (try simp [deps, waitsOn, Region.binds, knowing, isV, ownsV, anyV] at hd); simp only [putAll, List.take_succ_cons, List.take_zero, List.drop_succ_cons, List.drop_zero, Act.put, List.setIfInBounds_toArray, List.set_cons_zero, List.set_cons_succ, Nat.zero_add, Nat.reduceAdd]; rw [if_neg (by simp [Region.wanted, yielded, hd])]; exact trivial
            case sas13 =>
              intro v W hE hd; (try simp [deps, waitsOn, Region.binds, knowing, isV, ownsV, anyV] at hd); simp only [putAll, List.take_succ_cons, List.take_zero, List.drop_succ_cons, List.drop_zero, Act.put, List.setIfInBounds_toArray, List.set_cons_zero, List.set_cons_succ, Nat.zero_add, Nat.reduceAdd]; rw [if_neg (by simp [Region.wanted, yielded, hd])]; exact trivial
            case sas14 =>
              intro v W hE hd; (try simp [deps, waitsOn, Region.binds, knowing, isV, ownsV, anyV] at hd); simp only [putAll, List.take_succ_cons, List.take_zero, List.drop_succ_cons, List.drop_zero, Act.put, List.setIfInBounds_toArray, List.set_cons_zero, List.set_cons_succ, Nat.zero_add, Nat.reduceAdd]; rw [if_neg (by simp [Region.wanted, yielded, hd])]; exact trivial
            case sas15 =>
              intro v W hE hd; (try simp [deps, waitsOn, Region.binds, knowing, isV, ownsV, anyV] at hd); simp only [putAll, List.take_succ_cons, List.take_zero, List.drop_succ_cons, List.drop_zero, Act.put, List.setIfInBounds_toArray, List.set_cons_zero, List.set_cons_succ, Nat.zero_add, Nat.reduceAdd]; rw [if_neg (by simp [Region.wanted, yielded, hd])]; exact trivial
            case sas16 =>
              intro v W hE hd; (try simp [deps, waitsOn, Region.binds, knowing, isV, ownsV, anyV] at hd); simp only [putAll, List.take_succ_cons, List.take_zero, List.drop_succ_cons, List.drop_zero, Act.put, List.setIfInBounds_toArray, List.set_cons_zero, List.set_cons_succ, Nat.zero_add, Nat.reduceAdd]; rw [if_neg (by simp [Region.wanted, yielded, hd])]; exact trivial
            case sas17 =>
              intro v W hE hd; (try simp [deps, waitsOn, Region.binds, knowing, isV, ownsV, anyV] at hd); simp only [putAll, List.take_succ_cons, List.take_zero, List.drop_succ_cons, List.drop_zero, Act.put, List.setIfInBounds_toArray, List.set_cons_zero, List.set_cons_succ, Nat.zero_add, Nat.reduceAdd]; rw [if_neg (by simp [Region.wanted, yielded, hd])]; exact trivial
            case sas18 =>
              intro v W hE hd; (try simp [deps, waitsOn, Region.binds, knowing, isV, ownsV, anyV] at hd); simp only [putAll, List.take_succ_cons, List.take_zero, List.drop_succ_cons, List.drop_zero, Act.put, List.setIfInBounds_toArray, List.set_cons_zero, List.set_cons_succ, Nat.zero_add, Nat.reduceAdd]; rw [if_neg (by simp [Region.wanted, yielded, hd])]; exact trivial
            case sas19 =>
              intro v W hE hd; (try simp [deps, waitsOn, Region.binds, knowing, isV, ownsV, anyV] at hd); simp only [putAll, List.take_succ_cons, List.take_zero, List.drop_succ_cons, List.drop_zero, Act.put, List.setIfInBounds_toArray, List.set_cons_zero, List.set_cons_succ, Nat.zero_add, Nat.reduceAdd]; rw [if_neg (by simp [Region.wanted, yielded, hd])]; exact trivial
            case sas20 =>
              intro v W hE hd; (try simp [deps, waitsOn, Region.binds, knowing, isV, ownsV, anyV] at hd); simp only [putAll, List.take_succ_cons, List.take_zero, List.drop_succ_cons, List.drop_zero, Act.put, List.setIfInBounds_toArray, List.set_cons_zero, List.set_cons_succ, Nat.zero_add, Nat.reduceAdd]; rw [if_neg (by simp [Region.wanted, yielded, hd])]; exact trivial
            case sas21 =>
              intro v W hE hd; (try simp [deps, waitsOn, Region.binds, knowing, isV, ownsV, anyV] at hd); simp only [putAll, List.take_succ_cons, List.take_zero, List.drop_succ_cons, List.drop_zero, Act.put, List.setIfInBounds_toArray, List.set_cons_zero, List.set_cons_succ, Nat.zero_add, Nat.reduceAdd]; rw [if_neg (by simp [Region.wanted, yielded, hd])]; exact trivial
            case sas22 =>
              intro v W hE hd; (try simp [deps, waitsOn, Region.binds, knowing, isV, ownsV, anyV] at hd); simp only [putAll, List.take_succ_cons, List.take_zero, List.drop_succ_cons, List.drop_zero, Act.put, List.setIfInBounds_toArray, List.set_cons_zero, List.set_cons_succ, Nat.zero_add, Nat.reduceAdd]; rw [if_neg (by simp [Region.wanted, yielded, hd])]; exact trivial
            case sas23 =>
              intro v W hE hd; simp only [Region.wanted, ↓reduceIte]; (try simp [deps, waitsOn, Region.binds, knowing, isV, ownsV, anyV] at hd); simp only [putAll, List.take_succ_cons, List.take_zero, List.drop_succ_cons, List.drop_zero, Act.put, List.setIfInBounds_toArray, List.set_cons_zero, List.set_cons_succ, Nat.zero_add, Nat.reduceAdd]; go_simp; exact ⟨Below.refl _ _, rfl⟩
            case sas24 =>
              intro v W hE hd; simp only [Region.wanted, ↓reduceIte]; (try simp [deps, waitsOn, Region.binds, knowing, isV, ownsV, anyV] at hd); simp only [putAll, List.take_succ_cons, List.take_zero, List.drop_succ_cons, List.drop_zero, Act.put, List.setIfInBounds_toArray, List.set_cons_zero, List.set_cons_succ, Nat.zero_add, Nat.reduceAdd]; go_simp; exact ⟨Below.refl _ _, rfl⟩
            case sas25 =>
              intro v W hE hd; (try simp [deps, waitsOn, Region.binds, knowing, isV, ownsV, anyV] at hd); simp only [putAll, List.take_succ_cons, List.take_zero, List.drop_succ_cons, List.drop_zero, Act.put, List.setIfInBounds_toArray, List.set_cons_zero, List.set_cons_succ, Nat.zero_add, Nat.reduceAdd]; rw [if_neg (by simp [Region.wanted, yielded, hd])]; exact trivial
            case sas26 =>
              intro v W hE hd; (try simp [deps, waitsOn, Region.binds, knowing, isV, ownsV, anyV] at hd); simp only [putAll, List.take_succ_cons, List.take_zero, List.drop_succ_cons, List.drop_zero, Act.put, List.setIfInBounds_toArray, List.set_cons_zero, List.set_cons_succ, Nat.zero_add, Nat.reduceAdd]; rw [if_neg (by simp [Region.wanted, yielded, hd])]; exact trivial
            case sas27 =>
              intro v W hE hd; simp only [Region.wanted, ↓reduceIte]; (try simp [deps, waitsOn, Region.binds, knowing, isV, ownsV, anyV] at hd); simp only [putAll, List.take_succ_cons, List.take_zero, List.drop_succ_cons, List.drop_zero, Act.put, List.setIfInBounds_toArray, List.set_cons_zero, List.set_cons_succ, Nat.zero_add, Nat.reduceAdd]; go_simp; exact ⟨Below.refl _ _, rfl⟩
          · rintro v W9 hE ⟨-, -, -, -, -, -, -, -, -, -, -, -, -, -, -, -, -, -, -, -, -, -, -, -, -, -, -, e27, -⟩
            have e27 := (show v 27 = _ from e27)
            simp only [putAll, List.take_succ_cons, List.take_zero, List.drop_succ_cons, List.drop_zero, Act.put, List.setIfInBounds_toArray, List.set_cons_zero, List.set_cons_succ, Nat.zero_add, Nat.reduceAdd]
            rw [e27]
            have HEf := hid (HEa.out.trans' hE)
            clear e27 hE
            go_wp2
            go_ret
            exact ⟨by rw [hres.out]; rfl, HEf.out⟩
        subst h1
        by_cases h2 : xf = yf
        rotate_left
        · have hres := hid (Hno.out fun e => h2 (by injection e))
          generalize decide (xq = yq) = z at *
          have hst := str_toList
          have h2' : (xf == yf) = false := by simpa using h2
          clear h2 Hnx Hno
          go_wp2_with fail
          apply wp_drawn [isV _, isV _, isV _, isV _, isV _, isV _, isV _, isV _, isV _, isV _, isV (.bool false), isV _, isV _, isV _, isV _, isV _, isV _, isV _, isV _, isV _, isV _, isV _, isV (.bool true), isV _, isV _, anyV, anyV, isV _] (by kernel_rfl)
          · kernel_rfl
          · refine ⟨?sbs0, ?sbs1, ?sbs2, ?sbs3, ?sbs4, ?sbs5, ?sbs6, ?sbs7, ?sbs8, ?sbs9, ?sbs10, ?sbs11, ?sbs12, ?sbs13, ?sbs14, ?sbs15, ?sbs16, ?sbs17, ?sbs18, ?sbs19, ?sbs20, ?sbs21, ?sbs22, ?sbs23, ?sbs24, ?sbs25, ?sbs26, ?sbs27, trivial⟩
            case sbs0 =>
              intro v W hE hd; simp only [Region.wanted, ↓reduceIte]; (try simp [deps, waitsOn, Region.binds, knowing, isV, ownsV, anyV] at hd); simp only [putAll, List.take_succ_cons, List.take_zero, List.drop_succ_cons, List.drop_zero, Act.put, List.setIfInBounds_toArray, List.set_cons_zero, List.set_cons_succ, Nat.zero_add, Nat.reduceAdd]; go_simp; exact ⟨Below.refl _ _, rfl⟩
            case sbs1 =>
              intro v W hE hd; simp only [Region.wanted, ↓reduceIte]; (try simp [deps, waitsOn, Region.binds, knowing, isV, ownsV, anyV] at hd); simp only [putAll, List.take_succ_cons, List.take_zero, List.drop_succ_cons, List.drop_zero, Act.put, List.setIfInBounds_toArray, List.set_cons_zero, List.set_cons_succ, Nat.zero_add, Nat.reduceAdd]; go_simp; exact ⟨Below.refl _ _, rfl⟩
            case sbs2 =>
              intro v W hE hd; simp only [Region.wanted, ↓reduceIte]; (try simp [deps, waitsOn, Region.binds, knowing, isV, ownsV, anyV] at hd); simp only [putAll, List.take_succ_cons, List.take_zero, List.drop_succ_cons, List.drop_zero, Act.put, List.setIfInBounds_toArray, List.set_cons_zero, List.set_cons_succ, Nat.zero_add, Nat.reduceAdd]; go_simp; exact ⟨Below.refl _ _, rfl⟩
            case sbs3 =>
              intro v W hE hd; simp only [Region.wanted, ↓reduceIte]; (try simp [deps, waitsOn, Region.binds, knowing, isV, ownsV, anyV] at hd); simp only [putAll, List.take_succ_cons, List.take_zero, List.drop_succ_cons, List.drop_zero, Act.put, List.setIfInBounds_toArray, List.set_cons_zero, List.set_cons_succ, Nat.zero_add, Nat.reduceAdd]; go_simp; exact ⟨Below.refl _ _, rfl⟩
            case sbs4 =>
              intro v W hE hd; simp only [Region.wanted, ↓reduceIte]; (try simp [deps, waitsOn, Region.binds, knowing, isV, ownsV, anyV] at hd); simp only [putAll, List.take_succ_cons, List.take_zero, List.drop_succ_cons, List.drop_zero, Act.put, List.setIfInBounds_toArray, List.set_cons_zero, List.set_cons_succ, Nat.zero_add, Nat.reduceAdd]
              have g := cell_below hE Hf.out.1
              go_simp
              exact ⟨Below.refl _ _, rfl⟩
            case sbs5 =>
              intro v W hE hd; simp only [Region.wanted, ↓reduceIte]; (try simp [deps, waitsOn, Region.binds, knowing, isV, ownsV, anyV] at hd); simp only [putAll, List.take_succ_cons, List.take_zero, List.drop_succ_cons, List.drop_zero, Act.put, List.setIfInBounds_toArray, List.set_cons_zero, List.set_cons_succ, Nat.zero_add, Nat.reduceAdd]; go_simp; exact ⟨Below.refl _ _, rfl⟩
            case sbs6 =>
              intro v W hE hd; simp only [Region.wanted, ↓reduceIte]; (try simp [deps, waitsOn, Region.binds, knowing, isV, ownsV, anyV] at hd); simp only [putAll, List.take_succ_cons, List.take_zero, List.drop_succ_cons, List.drop_zero, Act.put, List.setIfInBounds_toArray, List.set_cons_zero, List.set_cons_succ, Nat.zero_add, Nat.reduceAdd]; go_simp; exact ⟨Below.refl _ _, rfl⟩
            case sbs7 =>
              intro v W hE hd; simp only [Region.wanted, ↓reduceIte]; (try simp [deps, waitsOn, Region.binds, knowing, isV, ownsV, anyV] at hd); simp only [putAll, List.take_succ_cons, List.take_zero, List.drop_succ_cons, List.drop_zero, Act.put, List.setIfInBounds_toArray, List.set_cons_zero, List.set_cons_succ, Nat.zero_add, Nat.reduceAdd]; go_simp; exact ⟨Below.refl _ _, rfl⟩
            case sbs8 =>
              intro v W hE hd; simp only [Region.wanted, ↓reduceIte]; (try simp [deps, waitsOn, Region.binds, knowing, isV, ownsV, anyV] at hd); simp only [putAll, List.take_succ_cons, List.take_zero, List.drop_succ_cons, List.drop_zero, Act.put, List.setIfInBounds_toArray, List.set_cons_zero, List.set_cons_succ, Nat.zero_add, Nat.reduceAdd]; go_simp; exact ⟨Below.refl _ _, rfl⟩
            case sbs9 =>
              intro v W hE hd; simp only [Region.wanted, ↓reduceIte]; (try simp [deps, waitsOn, Region.binds, knowing, isV, ownsV, anyV] at hd); simp only [putAll, List.take_succ_cons, List.take_zero, List.drop_succ_cons, List.drop_zero, Act.put, List.setIfInBounds_toArray, List.set_cons_zero, List.set_cons_succ, Nat.zero_add, Nat.reduceAdd]
              have g := cell_below hE Hf.out.2.1
              go_simp
              exact ⟨Below.refl _ _, rfl⟩
            case sbs10 =>
              intro v W hE hd; simp only [Region.wanted, ↓reduceIte]; (try simp [deps, waitsOn, Region.binds, knowing, isV, ownsV, anyV] at hd); simp only [putAll, List.take_succ_cons, List.take_zero, List.drop_succ_cons, List.drop_zero, Act.put, List.setIfInBounds_toArray, List.set_cons_zero, List.set_cons_succ, Nat.zero_add, Nat.reduceAdd]
              go_simp
              exact ⟨Below.refl _ _, rfl⟩
            case sbs11 =>
              intro v W hE hd; simp only [Region.wanted, ↓reduceIte]; (try simp [deps, waitsOn, Region.binds, knowing, isV, ownsV, anyV] at hd); simp only [putAll, List.take_succ_cons, List.take_zero, List.drop_succ_cons, List.drop_zero, Act.put, List.setIfInBounds_toArray, List.set_cons_zero, List.set_cons_succ, Nat.zero_add, Nat.reduceAdd]; go_simp; exact ⟨Below.refl _ _, rfl⟩
            case sbs12 =>
              intro v W hE hd; (try simp [deps, waitsOn, Region.binds, knowing, isV, ownsV, anyV] at hd); simp only [putAll, List.take_succ_cons, List.take_zero, List.drop_succ_cons, List.drop_zero, Act.put, List.setIfInBounds_toArray, List.set_cons_zero, List.set_cons_succ, Nat.zero_add, Nat.reduceAdd]; rw [if_pos (by simp [Region.wanted, yielded, hd])]; go_simp; exact ⟨Below.refl _ _, rfl⟩
            case sbs13 =>
              intro v W hE hd; (try simp [deps, waitsOn, Region.binds, knowing, isV, ownsV, anyV] at hd); simp only [putAll, List.take_succ_cons, List.take_zero, List.drop_succ_cons, List.drop_zero, Act.put, List.setIfInBounds_toArray, List.set_cons_zero, List.set_cons_succ, Nat.zero_add, Nat.reduceAdd]; rw [if_pos (by simp [Region.wanted, yielded, hd])]; go_simp; exact ⟨Below.refl _ _, rfl⟩
            case sbs14 =>
              intro v W hE hd; (try simp [deps, waitsOn, Region.binds, knowing, isV, ownsV, anyV] at hd); simp only [putAll, List.take_succ_cons, List.take_zero, List.drop_succ_cons, List.drop_zero, Act.put, List.setIfInBounds_toArray, List.set_cons_zero, List.set_cons_succ, Nat.zero_add, Nat.reduceAdd]; rw [if_pos (by simp [Region.wanted, yielded, hd])]; go_simp; exact ⟨Below.refl _ _, rfl⟩
            case sbs15 =>
              intro v W hE hd; (try simp [deps, waitsOn, Region.binds, knowing, isV, ownsV, anyV] at hd); simp only [putAll, List.take_succ_cons, List.take_zero, List.drop_succ_cons, List.drop_zero, Act.put, List.setIfInBounds_toArray, List.set_cons_zero, List.set_cons_succ, Nat.zero_add, Nat.reduceAdd]; rw [if_pos (by simp [Region.wanted, yielded, hd])]; go_simp; exact ⟨Below.refl _ _, rfl⟩
            case sbs16 =>
              intro v W hE hd; (try simp [deps, waitsOn, Region.binds, knowing, isV, ownsV, anyV] at hd); simp only [putAll, List.take_succ_cons, List.take_zero, List.drop_succ_cons, List.drop_zero, Act.put, List.setIfInBounds_toArray, List.set_cons_zero, List.set_cons_succ, Nat.zero_add, Nat.reduceAdd]; rw [if_pos (by simp [Region.wanted, yielded, hd])]
              have g := cell_below hE Hf.out.2.2.1
              go_simp
              exact ⟨Below.refl _ _, rfl⟩
            case sbs17 =>
              intro v W hE hd; (try simp [deps, waitsOn, Region.binds, knowing, isV, ownsV, anyV] at hd); simp only [putAll, List.take_succ_cons, List.take_zero, List.drop_succ_cons, List.drop_zero, Act.put, List.setIfInBounds_toArray, List.set_cons_zero, List.set_cons_succ, Nat.zero_add, Nat.reduceAdd]; rw [if_pos (by simp [Region.wanted, yielded, hd])]; go_simp; exact ⟨Below.refl _ _, rfl⟩
            case sbs18 =>
              intro v W hE hd; (try simp [deps, waitsOn, Region.binds, knowing, isV, ownsV, anyV] at hd); simp only [putAll, List.take_succ_cons, List.take_zero, List.drop_succ_cons, List.drop_zero, Act.put, List.setIfInBounds_toArray, List.set_cons_zero, List.set_cons_succ, Nat.zero_add, Nat.reduceAdd]; rw [if_pos (by simp [Region.wanted, yielded, hd])]; go_simp; exact ⟨Below.refl _ _, rfl⟩
            case sbs19 =>
              intro v W hE hd; (try simp [deps, waitsOn, Region.binds, knowing, isV, ownsV, anyV] at hd); simp only [putAll, List.take_succ_cons, List.take_zero, List.drop_succ_cons, List.drop_zero, Act.put, List.setIfInBounds_toArray, List.set_cons_zero, List.set_cons_succ, Nat.zero_add, Nat.reduceAdd]; rw [if_pos (by simp [Region.wanted, yielded, hd])]; go_simp; exact ⟨Below.refl _ _, rfl⟩
            case sbs20 =>
              intro v W hE hd; (try simp [deps, waitsOn, Region.binds, knowing, isV, ownsV, anyV] at hd); simp only [putAll, List.take_succ_cons, List.take_zero, List.drop_succ_cons, List.drop_zero, Act.put, List.setIfInBounds_toArray, List.set_cons_zero, List.set_cons_succ, Nat.zero_add, Nat.reduceAdd]; rw [if_pos (by simp [Region.wanted, yielded, hd])]; go_simp; exact ⟨Below.refl _ _, rfl⟩
            case sbs21 =>
              intro v W hE hd; (try simp [deps, waitsOn, Region.binds, knowing, isV, ownsV, anyV] at hd); simp only [putAll, List.take_succ_cons, List.take_zero, List.drop_succ_cons, List.drop_zero, Act.put, List.setIfInBounds_toArray, List.set_cons_zero, List.set_cons_succ, Nat.zero_add, Nat.reduceAdd]; rw [if_pos (by simp [Region.wanted, yielded, hd])]
              have g := cell_below hE Hf.out.2.2.2
              go_simp
              exact ⟨Below.refl _ _, rfl⟩
            case sbs22 =>
              intro v W hE hd; (try simp [deps, waitsOn, Region.binds, knowing, isV, ownsV, anyV] at hd); simp only [putAll, List.take_succ_cons, List.take_zero, List.drop_succ_cons, List.drop_zero, Act.put, List.setIfInBounds_toArray, List.set_cons_zero, List.set_cons_succ, Nat.zero_add, Nat.reduceAdd]; rw [if_pos (by simp [Region.wanted, yielded, hd])]
              go_simp
              exact ⟨Below.refl _ _, rfl⟩
            case sbs23 =>
              intro v W hE hd; simp only [Region.wanted, ↓reduceIte]; (try simp [deps, waitsOn, Region.binds, knowing, isV, ownsV, anyV] at hd); simp only [putAll, List.take_succ_cons, List.take_zero, List.drop_succ_cons, List.drop_zero, Act.put, List.setIfInBounds_toArray, List.set_cons_zero, List.set_cons_succ, Nat.zero_add, Nat.reduceAdd]; go_simp; exact ⟨Below.refl _ _, rfl⟩
            case sbs24 =>
              intro v W hE hd; simp only [Region.wanted, ↓reduceIte]; (try simp [deps, waitsOn, Region.binds, knowing, isV, ownsV, anyV] at hd); simp only [putAll, List.take_succ_cons, List.take_zero, List.drop_succ_cons, List.drop_zero, Act.put, List.setIfInBounds_toArray, List.set_cons_zero, List.set_cons_succ, Nat.zero_add, Nat.reduceAdd]; go_simp; exact ⟨Below.refl _ _, rfl⟩
            case sbs25 =>
              intro v W hE hd; (try simp [deps, waitsOn, Region.binds, knowing, isV, ownsV, anyV] at hd); simp only [putAll, List.take_succ_cons, List.take_zero, List.drop_succ_cons, List.drop_zero, Act.put, List.setIfInBounds_toArray, List.set_cons_zero, List.set_cons_succ, Nat.zero_add, Nat.reduceAdd]; rw [if_neg (by simp [Region.wanted, yielded, hd])]; exact trivial
            case sbs26 =>
              intro v W hE hd; (try simp [deps, waitsOn, Region.binds, knowing, isV, ownsV, anyV] at hd); simp only [putAll, List.take_succ_cons, List.take_zero, List.drop_succ_cons, List.drop_zero, Act.put, List.setIfInBounds_toArray, List.set_cons_zero, List.set_cons_succ, Nat.zero_add, Nat.reduceAdd]; rw [if_neg (by simp [Region.wanted, yielded, hd])]; exact trivial
            case sbs27 =>
              intro v W hE hd; simp only [Region.wanted, ↓reduceIte]; (try simp [deps, waitsOn, Region.binds, knowing, isV, ownsV, anyV] at hd); simp only [putAll, List.take_succ_cons, List.take_zero, List.drop_succ_cons, List.drop_zero, Act.put, List.setIfInBounds_toArray, List.set_cons_zero, List.set_cons_succ, Nat.zero_add, Nat.reduceAdd]; go_simp; exact ⟨Below.refl _ _, rfl⟩
          · rintro v W9 hE ⟨-, -, -, -, -, -, -, -, -, -, -, -, -, -, -, -, -, -, -, -, -, -, -, -, -, -, -, e27, -⟩
            have e27 := (show v 27 = _ from e27)
            simp only [putAll, List.take_succ_cons, List.take_zero, List.drop_succ_cons, List.drop_zero, Act.put, List.setIfInBounds_toArray, List.set_cons_zero, List.set_cons_succ, Nat.zero_add, Nat.reduceAdd]
            rw [e27]
            have HEf := hid (HEa.out.trans' hE)
            clear e27 hE
            go_wp2
            go_ret
            exact ⟨by rw [hres.out]; rfl, HEf.out⟩
        subst h2
        by_cases h3 : xq = yq
        · subst h3
          have hn2 := hid (Hnx.out rfl)
          rw [decide_eq_true rfl]
          clear Hnx Hno
          go_wp2_with fail
          apply wp_drawn [isV _, isV _, isV _, isV _, isV _, isV _, isV _, isV _, isV _, isV _, isV (.bool false), isV _, isV _, isV _, isV _, isV _, isV _, isV _, isV _, isV _, isV _, isV _, isV (.bool false), isV _, isV _, isV _, isV _, isV _] (by kernel_rfl)
          · kernel_rfl
          · refine ⟨?scs0, ?scs1, ?scs2, ?scs3, ?scs4, ?scs5, ?scs6, ?scs7, ?scs8, ?scs9, ?scs10, ?scs11, ?scs12, ?scs13, ?scs14, ?scs15, ?scs16, ?scs17, ?scs18, ?scs19, ?scs20, ?scs21, ?scs22, ?scs23, ?scs24, ?scs25, ?scs26, ?scs27, trivial⟩
            case scs0 =>
              intro v W hE hd; simp only [Region.wanted, ↓reduceIte]; (try simp [deps, waitsOn, Region.binds, knowing, isV, ownsV, anyV] at hd); simp only [putAll, List.take_succ_cons, List.take_zero, List.drop_succ_cons, List.drop_zero, Act.put, List.setIfInBounds_toArray, List.set_cons_zero, List.set_cons_succ, Nat.zero_add, Nat.reduceAdd]; go_simp; exact ⟨Below.refl _ _, rfl⟩
            case scs1 =>
              intro v W hE hd; simp only [Region.wanted, ↓reduceIte]; (try simp [deps, waitsOn, Region.binds, knowing, isV, ownsV, anyV] at hd); simp only [putAll, List.take_succ_cons, List.take_zero, List.drop_succ_cons, List.drop_zero, Act.put, List.setIfInBounds_toArray, List.set_cons_zero, List.set_cons_succ, Nat.zero_add, Nat.reduceAdd]; go_simp; exact ⟨Below.refl _ _, rfl⟩
            case scs2 =>
              intro v W hE hd; simp only [Region.wanted, ↓reduceIte]; (try simp [deps, waitsOn, Region.binds, knowing, isV, ownsV, anyV] at hd); simp only [putAll, List.take_succ_cons, List.take_zero, List.drop_succ_cons, List.drop_zero, Act.put, List.setIfInBounds_toArray, List.set_cons_zero, List.set_cons_succ, Nat.zero_add, Nat.reduceAdd]; go_simp; exact ⟨Below.refl _ _, rfl⟩
            case scs3 =>
              intro v W hE hd; simp only [Region.wanted, ↓reduceIte]; (try simp [deps, waitsOn, Region.binds, knowing, isV, ownsV, anyV] at hd); simp only [putAll, List.take_succ_cons, List.take_zero, List.drop_succ_cons, List.drop_zero, Act.put, List.setIfInBounds_toArray, List.set_cons_zero, List.set_cons_succ, Nat.zero_add, Nat.reduceAdd]; go_simp; exact ⟨Below.refl _ _, rfl⟩
            case scs4 =>
              intro v W hE hd; simp only [Region.wanted, ↓reduceIte]; (try simp [deps, waitsOn, Region.binds, knowing, isV, ownsV, anyV] at hd); simp only [putAll, List.take_succ_cons, List.take_zero, List.drop_succ_cons, List.drop_zero, Act.put, List.setIfInBounds_toArray, List.set_cons_zero, List.set_cons_succ, Nat.zero_add, Nat.reduceAdd]
              have g := cell_below hE Hf.out.1
              go_simp
              exact ⟨Below.refl _ _, rfl⟩
            case scs5 =>
              intro v W hE hd; simp only [Region.wanted, ↓reduceIte]; (try simp [deps, waitsOn, Region.binds, knowing, isV, ownsV, anyV] at hd); simp only [putAll, List.take_succ_cons, List.take_zero, List.drop_succ_cons, List.drop_zero, Act.put, List.setIfInBounds_toArray, List.set_cons_zero, List.set_cons_succ, Nat.zero_add, Nat.reduceAdd]; go_simp; exact ⟨Below.refl _ _, rfl⟩
            case scs6 =>
              intro v W hE hd; simp only [Region.wanted, ↓reduceIte]; (try simp [deps, waitsOn, Region.binds, knowing, isV, ownsV, anyV] at hd); simp only [putAll, List.take_succ_cons, List.take_zero, List.drop_succ_cons, List.drop_zero, Act.put, List.setIfInBounds_toArray, List.set_cons_zero, List.set_cons_succ, Nat.zero_add, Nat.reduceAdd]; go_simp; exact ⟨Below.refl _ _, rfl⟩
            case scs7 =>
              intro v W hE hd; simp only [Region.wanted, ↓reduceIte]; (try simp [deps, waitsOn, Region.binds, knowing, isV, ownsV, anyV] at hd); simp only [putAll, List.take_succ_cons, List.take_zero, List.drop_succ_cons, List.drop_zero, Act.put, List.setIfInBounds_toArray, List.set_cons_zero, List.set_cons_succ, Nat.zero_add, Nat.reduceAdd]; go_simp; exact ⟨Below.refl _ _, rfl⟩
            case scs8 =>
              intro v W hE hd; simp only [Region.wanted, ↓reduceIte]; (try simp [deps, waitsOn, Region.binds, knowing, isV, ownsV, anyV] at hd); simp only [putAll, List.take_succ_cons, List.take_zero, List.drop_succ_cons, List.drop_zero, Act.put, List.setIfInBounds_toArray, List.set_cons_zero, List.set_cons_succ, Nat.zero_add, Nat.reduceAdd]; go_simp; exact ⟨Below.refl _ _, rfl⟩
            case scs9 =>
              intro v W hE hd; simp only [Region.wanted, ↓reduceIte]; (try simp [deps, waitsOn, Region.binds, knowing, isV, ownsV, anyV] at hd); simp only [putAll, List.take_succ_cons, List.take_zero, List.drop_succ_cons, List.drop_zero, Act.put, List.setIfInBounds_toArray, List.set_cons_zero, List.set_cons_succ, Nat.zero_add, Nat.reduceAdd]
              have g := cell_below hE Hf.out.2.1
              go_simp
              exact ⟨Below.refl _ _, rfl⟩
            case scs10 =>
              intro v W hE hd; simp only [Region.wanted, ↓reduceIte]; (try simp [deps, waitsOn, Region.binds, knowing, isV, ownsV, anyV] at hd); simp only [putAll, List.take_succ_cons, List.take_zero, List.drop_succ_cons, List.drop_zero, Act.put, List.setIfInBounds_toArray, List.set_cons_zero, List.set_cons_succ, Nat.zero_add, Nat.reduceAdd]
              go_simp
              exact ⟨Below.refl _ _, rfl⟩
            case scs11 =>
              intro v W hE hd; simp only [Region.wanted, ↓reduceIte]; (try simp [deps, waitsOn, Region.binds, knowing, isV, ownsV, anyV] at hd); simp only [putAll, List.take_succ_cons, List.take_zero, List.drop_succ_cons, List.drop_zero, Act.put, List.setIfInBounds_toArray, List.set_cons_zero, List.set_cons_succ, Nat.zero_add, Nat.reduceAdd]; go_simp; exact ⟨Below.refl _ _, rfl⟩
            case scs12 =>
              intro v W hE hd; (try simp [deps, waitsOn, Region.binds, knowing, isV, ownsV, anyV] at hd); simp only [putAll, List.take_succ_cons, List.take_zero, List.drop_succ_cons, List.drop_zero, Act.put, List.setIfInBounds_toArray, List.set_cons_zero, List.set_cons_succ, Nat.zero_add, Nat.reduceAdd]; rw [if_pos (by simp [Region.wanted, yielded, hd])]; go_simp; exact ⟨Below.refl _ _, rfl⟩
            case scs13 =>
              intro v W hE hd; (try simp [deps, waitsOn, Region.binds, knowing, isV, ownsV, anyV] at hd); simp only [putAll, List.take_succ_cons, List.take_zero, List.drop_succ_cons, List.drop_zero, Act.put, List.setIfInBounds_toArray, List.set_cons_zero, List.set_cons_succ, Nat.zero_add, Nat.reduceAdd]; rw [if_pos (by simp [Region.wanted, yielded, hd])]; go_simp; exact ⟨Below.refl _ _, rfl⟩
            case scs14 =>
              intro v W hE hd; (try simp [deps, waitsOn, Region.binds, knowing, isV, ownsV, anyV] at hd); simp only [putAll, List.take_succ_cons, List.take_zero, List.drop_succ_cons, List.drop_zero, Act.put, List.setIfInBounds_toArray, List.set_cons_zero, List.set_cons_succ, Nat.zero_add, Nat.reduceAdd]; rw [if_pos (by simp [Region.wanted, yielded, hd])]; go_simp; exact ⟨Below.refl _ _, rfl⟩
            case scs15 =>
              intro v W hE hd; (try simp [deps, waitsOn, Region.binds, knowing, isV, ownsV, anyV] at hd); simp only [putAll, List.take_succ_cons, List.take_zero, List.drop_succ_cons, List.drop_zero, Act.put, List.setIfInBounds_toArray, List.set_cons_zero, List.set_cons_succ, Nat.zero_add, Nat.reduceAdd]; rw [if_pos (by simp [Region.wanted, yielded, hd])]; go_simp; exact ⟨Below.refl _ _, rfl⟩
            case scs16 =>
              intro v W hE hd; (try simp [deps, waitsOn, Region.binds, knowing, isV, ownsV, anyV] at hd); simp only [putAll, List.take_succ_cons, List.take_zero, List.drop_succ_cons, List.drop_zero, Act.put, List.setIfInBounds_toArray, List.set_cons_zero, List.set_cons_succ, Nat.zero_add, Nat.reduceAdd]; rw [if_pos (by simp [Region.wanted, yielded, hd])]
              have g := cell_below hE Hf.out.2.2.1
              go_simp
              exact ⟨Below.refl _ _, rfl⟩
            case scs17 =>
              intro v W hE hd; (try simp [deps, waitsOn, Region.binds, knowing, isV, ownsV, anyV] at hd); simp only [putAll, List.take_succ_cons, List.take_zero, List.drop_succ_cons, List.drop_zero, Act.put, List.setIfInBounds_toArray, List.set_cons_zero, List.set_cons_succ, Nat.zero_add, Nat.reduceAdd]; rw [if_pos (by simp [Region.wanted, yielded, hd])]; go_simp; exact ⟨Below.refl _ _, rfl⟩
            case scs18 =>
              intro v W hE hd; (try simp [deps, waitsOn, Region.binds, knowing, isV, ownsV, anyV] at hd); simp only [putAll, List.take_succ_cons, List.take_zero, List.drop_succ_cons, List.drop_zero, Act.put, List.setIfInBounds_toArray, List.set_cons_zero, List.set_cons_succ, Nat.zero_add, Nat.reduceAdd]; rw [if_pos (by simp [Region.wanted, yielded, hd])]; go_simp; exact ⟨Below.refl _ _, rfl⟩
            case scs19 =>
              intro v W hE hd; (try simp [deps, waitsOn, Region.binds, knowing, isV, ownsV, anyV] at hd); simp only [putAll, List.take_succ_cons, List.take_zero, List.drop_succ_cons, List.drop_zero, Act.put, List.setIfInBounds_toArray, List.set_cons_zero, List.set_cons_succ, Nat.zero_add, Nat.reduceAdd]; rw [if_pos (by simp [Region.wanted, yielded, hd])]; go_simp; exact ⟨Below.refl _ _, rfl⟩
            case scs20 =>
              intro v W hE hd; (try simp [deps, waitsOn, Region.binds, knowing, isV, ownsV, anyV] at hd); simp only [putAll, List.take_succ_cons, List.take_zero, List.drop_succ_cons, List.drop_zero, Act.put, List.setIfInBounds_toArray, List.set_cons_zero, List.set_cons_succ, Nat.zero_add, Nat.reduceAdd]; rw [if_pos (by simp [Region.wanted, yielded, hd])]; go_simp; exact ⟨Below.refl _ _, rfl⟩
            case scs21 =>
              intro v W hE hd; (try simp [deps, waitsOn, Region.binds, knowing, isV, ownsV, anyV] at hd); simp only [putAll, List.take_succ_cons, List.take_zero, List.drop_succ_cons, List.drop_zero, Act.put, List.setIfInBounds_toArray, List.set_cons_zero, List.set_cons_succ, Nat.zero_add, Nat.reduceAdd]; rw [if_pos (by simp [Region.wanted, yielded, hd])]
              have g := cell_below hE Hf.out.2.2.2
              go_simp
              exact ⟨Below.refl _ _, rfl⟩
            case scs22 =>
              intro v W hE hd; (try simp [deps, waitsOn, Region.binds, knowing, isV, ownsV, anyV] at hd); simp only [putAll, List.take_succ_cons, List.take_zero, List.drop_succ_cons, List.drop_zero, Act.put, List.setIfInBounds_toArray, List.set_cons_zero, List.set_cons_succ, Nat.zero_add, Nat.reduceAdd]; rw [if_pos (by simp [Region.wanted, yielded, hd])]
              go_simp
              exact ⟨Below.refl _ _, rfl⟩
            case scs23 =>
              intro v W hE hd; simp only [Region.wanted, ↓reduceIte]; (try simp [deps, waitsOn, Region.binds, knowing, isV, ownsV, anyV] at hd); simp only [putAll, List.take_succ_cons, List.take_zero, List.drop_succ_cons, List.drop_zero, Act.put, List.setIfInBounds_toArray, List.set_cons_zero, List.set_cons_succ, Nat.zero_add, Nat.reduceAdd]; go_simp; exact ⟨Below.refl _ _, rfl⟩
            case scs24 =>
              intro v W hE hd; simp only [Region.wanted, ↓reduceIte]; (try simp [deps, waitsOn, Region.binds, knowing, isV, ownsV, anyV] at hd); simp only [putAll, List.take_succ_cons, List.take_zero, List.drop_succ_cons, List.drop_zero, Act.put, List.setIfInBounds_toArray, List.set_cons_zero, List.set_cons_succ, Nat.zero_add, Nat.reduceAdd]; go_simp; exact ⟨Below.refl _ _, rfl⟩
            case scs25 =>
              intro v W hE hd; (try simp [deps, waitsOn, Region.binds, knowing, isV, ownsV, anyV] at hd); simp only [putAll, List.take_succ_cons, List.take_zero, List.drop_succ_cons, List.drop_zero, Act.put, List.setIfInBounds_toArray, List.set_cons_zero, List.set_cons_succ, Nat.zero_add, Nat.reduceAdd]; rw [if_pos (by simp [Region.wanted, yielded, hd])]; go_simp; exact ⟨Below.refl _ _, rfl⟩
            case scs26 =>
              intro v W hE hd; (try simp [deps, waitsOn, Region.binds, knowing, isV, ownsV, anyV] at hd); simp only [putAll, List.take_succ_cons, List.take_zero, List.drop_succ_cons, List.drop_zero, Act.put, List.setIfInBounds_toArray, List.set_cons_zero, List.set_cons_succ, Nat.zero_add, Nat.reduceAdd]; rw [if_pos (by simp [Region.wanted, yielded, hd])]; go_simp; exact ⟨Below.refl _ _, rfl⟩
            case scs27 =>
              intro v W hE hd; simp only [Region.wanted, ↓reduceIte]; (try simp [deps, waitsOn, Region.binds, knowing, isV, ownsV, anyV] at hd); simp only [putAll, List.take_succ_cons, List.take_zero, List.drop_succ_cons, List.drop_zero, Act.put, List.setIfInBounds_toArray, List.set_cons_zero, List.set_cons_succ, Nat.zero_add, Nat.reduceAdd]; go_simp; exact ⟨Below.refl _ _, rfl⟩
          · rintro v W9 hE ⟨-, -, -, -, -, -, -, -, -, -, -, -, -, -, -, -, -, -, -, -, -, -, -, -, -, -, -, e27, -⟩
            have e27 := (show v 27 = _ from e27)
            simp only [putAll, List.take_succ_cons, List.take_zero, List.drop_succ_cons, List.drop_zero, Act.put, List.setIfInBounds_toArray, List.set_cons_zero, List.set_cons_succ, Nat.zero_add, Nat.reduceAdd]
            rw [e27]
            have HEf := hid (HEa.out.trans' hE)
            clear e27 hE
            go_wp2_with fail
            go_roundw
            case rel => exact ⟨k + 1, by omega, by go_num, HEf, hn2⟩
            case measure => simp [intOf]; omega
        · have hres := hid (Hno.out fun e => h3 (by injection e))
          rw [decide_eq_false h3]
          clear Hnx Hno
          go_wp2_with fail
          apply wp_drawn [isV _, isV _, isV _, isV _, isV _, isV _, isV _, isV _, isV _, isV _, isV (.bool false), isV _, isV _, isV _, isV _, isV _, isV _, isV _, isV _, isV _, isV _, isV _, isV (.bool false), isV _, isV _, isV _, isV _, isV _] (by kernel_rfl)
          · kernel_rfl
          · refine ⟨?sds0, ?sds1, ?sds2, ?sds3, ?sds4, ?sds5, ?sds6, ?sds7, ?sds8, ?sds9, ?sds10, ?sds11, ?sds12, ?sds13, ?sds14, ?sds15, ?sds16, ?sds17, ?sds18, ?sds19, ?sds20, ?sds21, ?sds22, ?sds23, ?sds24, ?sds25, ?sds26, ?sds27, trivial⟩
            case sds0 =>
              intro v W hE hd; simp only [Region.wanted, ↓reduceIte]; (try simp [deps, waitsOn, Region.binds, knowing, isV, ownsV, anyV] at hd); simp only [putAll, List.take_succ_cons, List.take_zero, List.drop_succ_cons, List.drop_zero, Act.put, List.setIfInBounds_toArray, List.set_cons_zero, List.set_cons_succ, Nat.zero_add, Nat.reduceAdd]; go_simp; exact ⟨Below.refl _ _, rfl⟩
            case sds1 =>
              intro v W hE hd; simp only [Region.wanted, ↓reduceIte]; (try simp [deps, waitsOn, Region.binds, knowing, isV, ownsV, anyV] at hd); simp only [putAll, List.take_succ_cons, List.take_zero, List.drop_succ_cons, List.drop_zero, Act.put, List.setIfInBounds_toArray, List.set_cons_zero, List.set_cons_succ, Nat.zero_add, Nat.reduceAdd]; go_simp; exact ⟨Below.refl _ _, rfl⟩
            case sds2 =>
              intro v W hE hd; simp only [Region.wanted, ↓reduceIte]; (try simp [deps, waitsOn, Region.binds, knowing, isV, ownsV, anyV] at hd); simp only [putAll, List.take_succ_cons, List.take_zero, List.drop_succ_cons, List.drop_zero, Act.put, List.setIfInBounds_toArray, List.set_cons_zero, List.set_cons_succ, Nat.zero_add, Nat.reduceAdd]; go_simp; exact ⟨Below.refl _ _, rfl⟩
            case sds3 =>
              intro v W hE hd; simp only [Region.wanted, ↓reduceIte]; (try simp [deps, waitsOn, Region.binds, knowing, isV, ownsV, anyV] at hd); simp only [putAll, List.take_succ_cons, List.take_zero, List.drop_succ_cons, List.drop_zero, Act.put, List.setIfInBounds_toArray, List.set_cons_zero, List.set_cons_succ, Nat.zero_add, Nat.reduceAdd]; go_simp; exact ⟨Below.refl _ _, rfl⟩
            case sds4 =>
              intro v W hE hd; simp only [Region.wanted, ↓reduceIte]; (try simp [deps, waitsOn, Region.binds, knowing, isV, ownsV, anyV] at hd); simp only [putAll, List.take_succ_cons, List.take_zero, List.drop_succ_cons, List.drop_zero, Act.put, List.setIfInBounds_toArray, List.set_cons_zero, List.set_cons_succ, Nat.zero_add, Nat.reduceAdd]
              have g := cell_below hE Hf.out.1
              go_simp
              exact ⟨Below.refl _ _, rfl⟩
            case sds5 =>
              intro v W hE hd; simp only [Region.wanted, ↓reduceIte]; (try simp [deps, waitsOn, Region.binds, knowing, isV, ownsV, anyV] at hd); simp only [putAll, List.take_succ_cons, List.take_zero, List.drop_succ_cons, List.drop_zero, Act.put, List.setIfInBounds_toArray, List.set_cons_zero, List.set_cons_succ, Nat.zero_add, Nat.reduceAdd]; go_simp; exact ⟨Below.refl _ _, rfl⟩
            case sds6 =>
              intro v W hE hd; simp only [Region.wanted, ↓reduceIte]; (try simp [deps, waitsOn, Region.binds, knowing, isV, ownsV, anyV] at hd); simp only [putAll, List.take_succ_cons, List.take_zero, List.drop_succ_cons, List.drop_zero, Act.put, List.setIfInBounds_toArray, List.set_cons_zero, List.set_cons_succ, Nat.zero_add, Nat.reduceAdd]; go_simp; exact ⟨Below.refl _ _, rfl⟩
            case sds7 =>
              intro v W hE hd; simp only [Region.wanted, ↓reduceIte]; (try simp [deps, waitsOn, Region.binds, knowing, isV, ownsV, anyV] at hd); simp only [putAll, List.take_succ_cons, List.take_zero, List.drop_succ_cons, List.drop_zero, Act.put, List.setIfInBounds_toArray, List.set_cons_zero, List.set_cons_succ, Nat.zero_add, Nat.reduceAdd]; go_simp; exact ⟨Below.refl _ _, rfl⟩
            case sds8 =>
              intro v W hE hd; simp only [Region.wanted, ↓reduceIte]; (try simp [deps, waitsOn, Region.binds, knowing, isV, ownsV, anyV] at hd); simp only [putAll, List.take_succ_cons, List.take_zero, List.drop_succ_cons, List.drop_zero, Act.put, List.setIfInBounds_toArray, List.set_cons_zero, List.set_cons_succ, Nat.zero_add, Nat.reduceAdd]; go_simp; exact ⟨Below.refl _ _, rfl⟩
            case sds9 =>
              intro v W hE hd; simp only [Region.wanted, ↓reduceIte]; (try simp [deps, waitsOn, Region.binds, knowing, isV, ownsV, anyV] at hd); simp only [putAll, List.take_succ_cons, List.take_zero, List.drop_succ_cons, List.drop_zero, Act.put, List.setIfInBounds_toArray, List.set_cons_zero, List.set_cons_succ, Nat.zero_add, Nat.reduceAdd]
              have g := cell_below hE Hf.out.2.1
              go_simp
              exact ⟨Below.refl _ _, rfl⟩
            case sds10 =>
              intro v W hE hd; simp only [Region.wanted, ↓reduceIte]; (try simp [deps, waitsOn, Region.binds, knowing, isV, ownsV, anyV] at hd); simp only [putAll, List.take_succ_cons, List.take_zero, List.drop_succ_cons, List.drop_zero, Act.put, List.setIfInBounds_toArray, List.set_cons_zero, List.set_cons_succ, Nat.zero_add, Nat.reduceAdd]
              go_simp
              exact ⟨Below.refl _ _, rfl⟩
            case sds11 =>
              intro v W hE hd; simp only [Region.wanted, ↓reduceIte]; (try simp [deps, waitsOn, Region.binds, knowing, isV, ownsV, anyV] at hd); simp only [putAll, List.take_succ_cons, List.take_zero, List.drop_succ_cons, List.drop_zero, Act.put, List.setIfInBounds_toArray, List.set_cons_zero, List.set_cons_succ, Nat.zero_add, Nat.reduceAdd]; go_simp; exact ⟨Below.refl _ _, rfl⟩
            case sds12 =>
              intro v W hE hd; (try simp [deps, waitsOn, Region.binds, knowing, isV, ownsV, anyV] at hd); simp only [putAll, List.take_succ_cons, List.take_zero, List.drop_succ_cons, List.drop_zero, Act.put, List.setIfInBounds_toArray, List.set_cons_zero, List.set_cons_succ, Nat.zero_add, Nat.reduceAdd]; rw [if_pos (by simp [Region.wanted, yielded, hd])]; go_simp; exact ⟨Below.refl _ _, rfl⟩
            case sds13 =>
              intro v W hE hd; (try simp [deps, waitsOn, Region.binds, knowing, isV, ownsV, anyV] at hd); simp only [putAll, List.take_succ_cons, List.take_zero, List.drop_succ_cons, List.drop_zero, Act.put, List.setIfInBounds_toArray, List.set_cons_zero, List.set_cons_succ, Nat.zero_add, Nat.reduceAdd]; rw [if_pos (by simp [Region.wanted, yielded, hd])]; go_simp; exact ⟨Below.refl _ _, rfl⟩
            case sds14 =>
              intro v W hE hd; (try simp [deps, waitsOn, Region.binds, knowing, isV, ownsV, anyV] at hd); simp only [putAll, List.take_succ_cons, List.take_zero, List.drop_succ_cons, List.drop_zero, Act.put, List.setIfInBounds_toArray, List.set_cons_zero, List.set_cons_succ, Nat.zero_add, Nat.reduceAdd]; rw [if_pos (by simp [Region.wanted, yielded, hd])]; go_simp; exact ⟨Below.refl _ _, rfl⟩
            case sds15 =>
              intro v W hE hd; (try simp [deps, waitsOn, Region.binds, knowing, isV, ownsV, anyV] at hd); simp only [putAll, List.take_succ_cons, List.take_zero, List.drop_succ_cons, List.drop_zero, Act.put, List.setIfInBounds_toArray, List.set_cons_zero, List.set_cons_succ, Nat.zero_add, Nat.reduceAdd]; rw [if_pos (by simp [Region.wanted, yielded, hd])]; go_simp; exact ⟨Below.refl _ _, rfl⟩
            case sds16 =>
              intro v W hE hd; (try simp [deps, waitsOn, Region.binds, knowing, isV, ownsV, anyV] at hd); simp only [putAll, List.take_succ_cons, List.take_zero, List.drop_succ_cons, List.drop_zero, Act.put, List.setIfInBounds_toArray, List.set_cons_zero, List.set_cons_succ, Nat.zero_add, Nat.reduceAdd]; rw [if_pos (by simp [Region.wanted, yielded, hd])]
              have g := cell_below hE Hf.out.2.2.1
              go_simp
              exact ⟨Below.refl _ _, rfl⟩
            case sds17 =>
              intro v W hE hd; (try simp [deps, waitsOn, Region.binds, knowing, isV, ownsV, anyV] at hd); simp only [putAll, List.take_succ_cons, List.take_zero, List.drop_succ_cons, List.drop_zero, Act.put, List.setIfInBounds_toArray, List.set_cons_zero, List.set_cons_succ, Nat.zero_add, Nat.reduceAdd]; rw [if_pos (by simp [Region.wanted, yielded, hd])]; go_simp; exact ⟨Below.refl _ _, rfl⟩
            case sds18 =>
              intro v W hE hd; (try simp [deps, waitsOn, Region.binds, knowing, isV, ownsV, anyV] at hd); simp only [putAll, List.take_succ_cons, List.take_zero, List.drop_succ_cons, List.drop_zero, Act.put, List.setIfInBounds_toArray, List.set_cons_zero, List.set_cons_succ, Nat.zero_add, Nat.reduceAdd]; rw [if_pos (by simp [Region.wanted, yielded, hd])]; go_simp; exact ⟨Below.refl _ _, rfl⟩
            case sds19 =>
              intro v W hE hd; (try simp [deps, waitsOn, Region.binds, knowing, isV, ownsV, anyV] at hd); simp only [putAll, List.take_succ_cons, List.take_zero, List.drop_succ_cons, List.drop_zero, Act.put, List.setIfInBounds_toArray, List.set_cons_zero, List.set_cons_succ, Nat.zero_add, Nat.reduceAdd]; rw [if_pos (by simp [Region.wanted, yielded, hd])]; go_simp; exact ⟨Below.refl _ _, rfl⟩
            case sds20 =>
              intro v W hE hd; (try simp [deps, waitsOn, Region.binds, knowing, isV, ownsV, anyV] at hd); simp only [putAll, List.take_succ_cons, List.take_zero, List.drop_succ_cons, List.drop_zero, Act.put, List.setIfInBounds_toArray, List.set_cons_zero, List.set_cons_succ, Nat.zero_add, Nat.reduceAdd]; rw [if_pos (by simp [Region.wanted, yielded, hd])]; go_simp; exact ⟨Below.refl _ _, rfl⟩
            case sds21 =>
              intro v W hE hd; (try simp [deps, waitsOn, Region.binds, knowing, isV, ownsV, anyV] at hd); simp only [putAll, List.take_succ_cons, List.take_zero, List.drop_succ_cons, List.drop_zero, Act.put, List.setIfInBounds_toArray, List.set_cons_zero, List.set_cons_succ, Nat.zero_add, Nat.reduceAdd]; rw [if_pos (by simp [Region.wanted, yielded, hd])]
              have g := cell_below hE Hf.out.2.2.2
              go_simp
              exact ⟨Below.refl _ _, rfl⟩
            case sds22 =>
              intro v W hE hd; (try simp [deps, waitsOn, Region.binds, knowing, isV, ownsV, anyV] at hd); simp only [putAll, List.take_succ_cons, List.take_zero, List.drop_succ_cons, List.drop_zero, Act.put, List.setIfInBounds_toArray, List.set_cons_zero, List.set_cons_succ, Nat.zero_add, Nat.reduceAdd]; rw [if_pos (by simp [Region.wanted, yielded, hd])]
              go_simp
              exact ⟨Below.refl _ _, rfl⟩
            case sds23 =>
              intro v W hE hd; simp only [Region.wanted, ↓reduceIte]; (try simp [deps, waitsOn, Region.binds, knowing, isV, ownsV, anyV] at hd); simp only [putAll, List.take_succ_cons, List.take_zero, List.drop_succ_cons, List.drop_zero, Act.put, List.setIfInBounds_toArray, List.set_cons_zero, List.set_cons_succ, Nat.zero_add, Nat.reduceAdd]; go_simp; exact ⟨Below.refl _ _, rfl⟩
            case sds24 =>
              intro v W hE hd; simp only [Region.wanted, ↓reduceIte]; (try simp [deps, waitsOn, Region.binds, knowing, isV, ownsV, anyV] at hd); simp only [putAll, List.take_succ_cons, List.take_zero, List.drop_succ_cons, List.drop_zero, Act.put, List.setIfInBounds_toArray, List.set_cons_zero, List.set_cons_succ, Nat.zero_add, Nat.reduceAdd]; go_simp; exact ⟨Below.refl _ _, rfl⟩
            case sds25 =>
              intro v W hE hd; (try simp [deps, waitsOn, Region.binds, knowing, isV, ownsV, anyV] at hd); simp only [putAll, List.take_succ_cons, List.take_zero, List.drop_succ_cons, List.drop_zero, Act.put, List.setIfInBounds_toArray, List.set_cons_zero, List.set_cons_succ, Nat.zero_add, Nat.reduceAdd]; rw [if_pos (by simp [Region.wanted, yielded, hd])]; go_simp; exact ⟨Below.refl _ _, rfl⟩
            case sds26 =>
              intro v W hE hd; (try simp [deps, waitsOn, Region.binds, knowing, isV, ownsV, anyV] at hd); simp only [putAll, List.take_succ_cons, List.take_zero, List.drop_succ_cons, List.drop_zero, Act.put, List.setIfInBounds_toArray, List.set_cons_zero, List.set_cons_succ, Nat.zero_add, Nat.reduceAdd]; rw [if_pos (by simp [Region.wanted, yielded, hd])]; go_simp; exact ⟨Below.refl _ _, rfl⟩
            case sds27 =>
              intro v W hE hd; simp only [Region.wanted, ↓reduceIte]; (try simp [deps, waitsOn, Region.binds, knowing, isV, ownsV, anyV] at hd); simp only [putAll, List.take_succ_cons, List.take_zero, List.drop_succ_cons, List.drop_zero, Act.put, List.setIfInBounds_toArray, List.set_cons_zero, List.set_cons_succ, Nat.zero_add, Nat.reduceAdd]; go_simp; exact ⟨Below.refl _ _, rfl⟩
          · rintro v W9 hE ⟨-, -, -, -, -, -, -, -, -, -, -, -, -, -, -, -, -, -, -, -, -, -, -, -, -, -, -, e27, -⟩
            have e27 := (show v 27 = _ from e27)
            simp only [putAll, List.take_succ_cons, List.take_zero, List.drop_succ_cons, List.drop_zero, Act.put, List.setIfInBounds_toArray, List.set_cons_zero, List.set_cons_succ, Nat.zero_add, Nat.reduceAdd]
            rw [e27]
            have HEf := hid (HEa.out.trans' hE)
            clear e27 hE
            go_wp2
            go_ret
            exact ⟨by rw [hres.out]; rfl, HEf.out⟩
    · obtain rfl : k = n := by omega
      have hres := hid (show decide (ds = es) = true from decide_eq_true (List.ext_getElem (by rw [← hn.out, ← hm.out]) fun j h1 h2 => HN.out j (by have := hn.out; omega) h1 h2))
      have hlt' : ¬ ((k : Int) < (k : Int)) := by omega
      go_wp2
      go_ret
      exact ⟨by rw [hres.out]; rfl, HE.out⟩
end Go.Proofs.YtakebdeldndaaaaGreat

/- registrarlaw17.folded. -/
namespace Go.Proofs.YtakebdeldndaaaaGreat
open Go Go.RowKit
set_option linter.unusedSimpArgs false
set_option linter.unusedVariables false

/-- What is folded: the events that none of the states refused. -/
def FoldedV (ds : List DefV) (k : Nat) (V : List (DefV × Ents)) : Prop := ∃ es : List EvV, V = runAll es (ds.map fun d => (d, [])) ∧ (∀ e ∈ es, mayEv e = 0) ∧ es.length ≤ k
theorem FoldedV.next {ds : List DefV} {k : Nat} {V : List (DefV × Ents)} (h : FoldedV ds k V) {e : EvV} (he : mayEv e = 0) : FoldedV ds (k + 1) (afterV [e] V) := by
  obtain ⟨es, h1, h2, h3⟩ := h
  unfold afterV
  split
  · refine ⟨es ++ [e], by rw [runAll_append, ← h1], fun x hx => ?_, by simp; omega⟩
    rcases List.mem_append.1 hx with hx | hx
    · exact h2 x hx
    · simp at hx; subst hx; exact he
  · exact ⟨es, h1, h2, by omega⟩
theorem FoldedV.le {ds : List DefV} {k k' : Nat} {V : List (DefV × Ents)} (h : FoldedV ds k V) (hk : k ≤ k') : FoldedV ds k' V := by
  obtain ⟨es, h1, h2, h3⟩ := h
  exact ⟨es, h1, h2, by omega⟩
theorem FoldedV.far {ds : List DefV} {k : Nat} {V : List (DefV × Ents)} (h : FoldedV ds k V) (hd : ds.length ≤ 4) (hk : k ≤ 30) : FarV (1125899906842624 + 1000 * (30 : Nat)) (0 + 6 * 30) 370 V := by
  obtain ⟨es, h1, h2, h3⟩ := h
  rw [h1]
  exact (farV_new hd).next h2 (by omega) (by decide)
theorem FoldedV.ok {ds : List DefV} {k : Nat} {V : List (DefV × Ents)} (h : FoldedV ds k V) (hd : ∀ d ∈ ds, mayDef d = 0) : OkV V := by
  obtain ⟨es, h1, h2, h3⟩ := h
  rw [h1]
  intro x hx
  unfold runAll at hx
  obtain ⟨y, hy, rfl⟩ := List.mem_map.1 hx
  have := okV_new hd y hy
  exact ⟨okR_fold es this.1, this.2⟩
theorem FoldedV.fst {ds : List DefV} {k : Nat} {V : List (DefV × Ents)} (h : FoldedV ds k V) : V.map (·.1) = ds := by
  obtain ⟨es, h1, h2, h3⟩ := h
  rw [h1]
  unfold runAll
  rw [List.map_map, List.map_map]
  exact List.map_id _
theorem FoldedV.loads {w : World} {S : Nat → Prop} {p : Nat} {L : List Pc} (hS : SetIs w S p L) {ds : List DefV} {k : Nat} (h : FoldedV ds k (viewP L)) (hk : k ≤ 30) : ∀ x ∈ viewP L, okE x.1 x.2 = true := by
  obtain ⟨es, h1, h2, h3⟩ := h
  exact fresh_ok hS (fun e he => small_may (h2 e he)) (by omega) h1
structure FoldedIs (w : World) (ds : List DefV) (e : Ending) (w' : World) : Prop where
  ext : Ext w w'
  ans : (defsE ds ≠ 0 ∧ e = .returned (.tuple #[.pointer none, .pointer none])) ∨
    (defsE ds = 0 ∧ ∃ p z L S, e = .returned (.tuple #[.pointer (some ⟨p, 0, none⟩), .pointer (some ⟨z, 0, none⟩)]) ∧ One w.heap.size w' S p L ∧ FoldedV ds 30 (viewP L))
set_option maxRecDepth 100000 in
set_option maxHeartbeats 8000000 in
theorem folded_at {w : World} {A : Option Addr} {n c : Nat} {ds : List DefV} (hx : SlR RDef w (· < w.heap.size) A n c ds) {A1 : Option Addr} {n1 c1 : Nat} {l : List EvV} (hl : SlR REv w (· < w.heap.size) A1 n1 c1 l) :
    Calls Tryz.prog 7 #[.slice A n c, .slice A1 n1 c1] w fun e w' => FoldedIs w ds e w' := by
  have Hl := hid hl
  have Hx := hid hx
  have hnc1 := hl.2.1
  have hcm1 := hl.2.2.1
  have Hnl := hid hl.1
  have hnew := projNew2_at hx
  clear hx hl
  go_enter Tryz.func7, Tryz.ntmps7
  go_wp2_with fail
  refine hnew.mono ?_
  clear hnew
  rintro e w1 ⟨hE2, hans⟩
  have hnew2 := refSetNew_at (w := w1) (n1 := w.heap.size) (Hx.out.ext fun k hk => hE2.block k hk) hE2.size
  have HE1 := hid hE2
  rcases hans with ⟨h0, rfl⟩ | ⟨h0, p, L, S, rfl, hS, hv, hR, hSl, hb⟩
  · clear hE2
    go_wp2_with fail
    refine hnew2.mono ?_
    clear hnew2
    rintro e w3 ⟨hE3, hans⟩
    rcases hans with ⟨-, rfl⟩ | ⟨h, -⟩
    rotate_left
    · exact absurd h h0
    have hpost := hid (show FoldedIs w ds (.returned (.tuple #[.pointer none, .pointer none])) w3 from ⟨HE1.out.trans' hE3, .inl ⟨h0, rfl⟩⟩)
    generalize defsE ds = me at *
    clear hE3 h0
    go_wp2
    go_ret2
    exact hpost.out
  obtain ⟨hlen, hmay⟩ := defsE_zero h0
  have HM2 := hid (And.intro hS (And.intro hv hb))
  have Hdl := hid hlen
  have Hmay := hid hmay
  have H0 := hid h0
  clear hS hv hR hSl hb hE2 hlen hmay h0
  go_wp2_with fail
  refine hnew2.mono ?_
  clear hnew2
  rintro e w3 ⟨hE3, hans⟩
  rcases hans with ⟨h, -⟩ | ⟨-, z, M, S2, rfl, hS2, hv2, hR2, hSa, hSb, hb2⟩
  · exact absurd H0.out h
  obtain ⟨hS, hv, hb⟩ := HM2.out
  have HD := hid (both_new (n := w.heap.size) hS hb hE3 hS2 hR2 hb2 hSa)
  have Hvv := hid (show viewP L = viewP M ∧ FoldedV ds 0 (viewP L) from ⟨hv.trans hv2.symm, [], by rw [hv, runAll_nil], fun e he => by simp at he, by simp⟩)
  have HE3 := hid (HE1.out.trans' hE3)
  clear hS hv hb hS2 hv2 hR2 hSa hSb hb2 hE3 HM2
  generalize hSS : (fun k => (k = p ∨ Blk L k) ∨ (k = z ∨ Blk M k)) = SS at *
  clear hSS
  go_wp2_with fail
  go_loopw [10] (fun i wr => ∃ (k : Nat) (S' : Nat → Prop) (L' M' : List Pc), k ≤ n1 ∧ k ≤ 30 ∧ i = .int .i64 (k : Int) ∧ Hid (Both w.heap.size wr S' p L' z M') ∧ Hid (viewP L' = viewP M' ∧ FoldedV ds k (viewP L')) ∧ Hid (Ext w wr)) (fun i _ => n1 - (intOf i).toNat)
  case atStart => exact ⟨0, _, _, _, by omega, by omega, rfl, HD, Hvv, HE3⟩
  case round =>
    clear HD Hvv HE3
    obtain ⟨k, S', L', M', hk1, hk30, rfl, HD, HV, HE⟩ := hrel
    by_cases hlt : k < n1 ∧ k < 30
    · obtain ⟨hkn, hk30'⟩ := hlt
      have hkx : k < l.length := by have := Hnl.out; omega
      have hlt1 : (k : Int) < (n1 : Int) := by omega
      have hlt3 : (k : Int) < 30 := by omega
      have hk00 : ¬ ((k : Int) < 0) := by omega
      have hk0 : (0 : Int) ≤ (k : Int) := by omega
      obtain ⟨b, o, T, a, U, u2, rfl, hkb, f0, f1, f2, f3, s1, s2, ht, hu⟩ := ev_at Hl.out k hkx
      have Hrow := hid (rec_mk (w := w) (ps := 0) (vr := 0) (e := l[k]) s1 s2 ht hu)
      have Hin := hid (show EvIn wr T _ a U _ u2 l[k] from ⟨s1, s2, (ht.grow HE.out), (hu.grow HE.out)⟩)
      have F := hid (And.intro f0 (And.intro f1 (And.intro f2 f3)))
      clear ht hu f0 f1 f2 f3 s1 s2
      generalize l[k] = ev at *
      have Hsm0 := hid (fun (h : mayEv ev = 0) => small_may h)
      generalize hn1 : ev.tags.length = t1 at *
      generalize hn2 : ev.fields.length = t2 at *
      clear hn1 hn2
      obtain ⟨f0, f1, f2, f3⟩ := F.out
      have f0 := cell_below HE.out f0; have f1 := cell_below HE.out f1; have f2 := cell_below HE.out f2; have f3 := cell_below HE.out f3
      have hcc := refMayEv_at Hin.out
      unfold evVal at hcc
      go_wp2_with fail
      refine hcc.mono ?_
      clear hcc f0 f1 f2 f3
      rintro x w4 ⟨rfl, hE⟩
      have HE4 := hid (HE.out.trans' hE)
      have HD4 := hid (HD.out.ext hE)
      clear hE HD HE
      by_cases hm : mayEv ev = 0
      rotate_left
      · have hmb : (mayEv ev == 0) = false := beq_eq_false_iff_ne.2 hm
        have HV2 := hid (And.intro HV.out.1 (HV.out.2.le (Nat.le_succ k)))
        generalize mayEv ev = me at *
        go_wp2_with fail
        go_roundw
        case rel => exact ⟨k + 1, _, _, _, by omega, by omega, by go_num, HD4, HV2, HE4⟩
        case measure => simp [intOf]; omega
      rw [hm]
      have Hsm := hid (show ∀ e ∈ evsOf [((0 : Int), (0 : Int), ev)], SmallE e from fun e he => by
        have h1 : e = ev := by simpa [evsOf] using he
        rw [h1]; exact Hsm0.out hm)
      have HV2 := hid (HV.out.2.next hm)
      have Hfar := hid (HV.out.2.far Hdl.out (by omega))
      have HOk := hid (HV.out.2.ok Hmay.out)
      clear hm Hsm0
      -- the program's
      obtain ⟨f0, f1, f2, f3⟩ := F.out
      have f0 := cell_below HE4.out f0; have f1 := cell_below HE4.out f1; have f2 := cell_below HE4.out f2; have f3 := cell_below HE4.out f3
      have hEb := ext_alloc w4 (.cells #[.int .i64 0, .int .i64 0, .string (str ev.st), .string (str ev.ty), .slice T t1 a, .slice U t2 u2] 65)
      have HDb := hid (HD4.out.ext hEb)
      have HEb := hid (HE4.out.trans' hEb)
      have hrow : SlR RRec (w4.alloc (.cells #[.int .i64 0, .int .i64 0, .string (str ev.st), .string (str ev.ty), .slice T t1 a, .slice U t2 u2] 65)) (Out S' (w4.alloc (.cells #[.int .i64 0, .int .i64 0, .string (str ev.st), .string (str ev.ty), .slice T t1 a, .slice U t2 u2] 65))) (some ⟨w4.heap.size, 0, none⟩) 1 1 [(0, 0, ev)] :=
        slR_box (R := RRec) (cs := [.int .i64 0, .int .i64 0, .string (str ev.st), .string (str ev.ty), .slice T t1 a, .slice U t2 u2]) (x := (0, 0, ev)) (RRec.mono (RRec.ext Hrow.out fun x hx => HEb.out.block x hx) fun x hx => ⟨Nat.lt_of_lt_of_le hx HEb.out.size, fun h => by have := HDb.out.lo x h; omega⟩) ⟨by simp, fun h => by have := HD4.out.lt _ h; omega⟩
      have hcc := setApply_at HDb.out.A HDb.out.lt (by rw [← viewP_len]; have := Hfar.out.few; omega) hrow (FarV.run Hfar.out (by simp)) Hsm.out
      clear hrow hEb HD4
      go_wp2_with fail
      generalize w4.alloc (.cells #[.int .i64 0, .int .i64 0, .string (str ev.st), .string (str ev.ty), .slice T t1 a, .slice U t2 u2] 65) = w5 at *
      refine hcc.mono ?_
      clear hcc f0 f1 f2 f3
      rintro e w6 hD
      obtain ⟨rfl, S6, L6, hD6, hv6, -, -⟩ := HDb.out.didA hD
      have hpl := HDb.out.lo _ HDb.out.A.pIn
      have HE6 := hid (show Ext w w6 from HEb.out.trans (hD.kept.below hpl hpl HEb.out.size))
      have HD6 := hid hD6
      have Hv6 := hid hv6
      clear hD hD6 hv6 hpl HDb HEb HE4
      generalize hae : afterE (evsOf [((0 : Int), (0 : Int), ev)]) (viewP L') = ae at *
      clear hae
      -- the reference's
      obtain ⟨f0, f1, f2, f3⟩ := F.out
      have f0 := cell_below HE6.out f0; have f1 := cell_below HE6.out f1; have f2 := cell_below HE6.out f2; have f3 := cell_below HE6.out f3
      have hEb := ext_alloc w6 (.cells #[.int .i64 0, .int .i64 0, .string (str ev.st), .string (str ev.ty), .slice T t1 a, .slice U t2 u2] 65)
      have HDb := hid (HD6.out.ext hEb)
      have HEb := hid (HE6.out.trans' hEb)
      have hrow : SlR RRec (w6.alloc (.cells #[.int .i64 0, .int .i64 0, .string (str ev.st), .string (str ev.ty), .slice T t1 a, .slice U t2 u2] 65)) (Out S6 (w6.alloc (.cells #[.int .i64 0, .int .i64 0, .string (str ev.st), .string (str ev.ty), .slice T t1 a, .slice U t2 u2] 65))) (some ⟨w6.heap.size, 0, none⟩) 1 1 [(0, 0, ev)] :=
        slR_box (R := RRec) (cs := [.int .i64 0, .int .i64 0, .string (str ev.st), .string (str ev.ty), .slice T t1 a, .slice U t2 u2]) (x := (0, 0, ev)) (RRec.mono (RRec.ext Hrow.out fun x hx => HEb.out.block x hx) fun x hx => ⟨Nat.lt_of_lt_of_le hx HEb.out.size, fun h => by have := HDb.out.lo x h; omega⟩) ⟨by simp, fun h => by have := HD6.out.lt _ h; omega⟩
      have hvM := hid (show viewP M' = viewP L' from HV.out.1.symm)
      have hcc := refSetApply_at HDb.out.B HDb.out.lt (by rw [← viewP_len, hvM.out]; have := Hfar.out.few; omega) hrow (FarV.run (L := M') (by rw [hvM.out]; exact Hfar.out) (by simp)) Hsm.out (fun x hx => HOk.out (x.d, x.D) (by rw [← hvM.out]; exact List.mem_map.2 ⟨x, hx, rfl⟩))
      clear hrow hEb HD6
      go_wp2_with fail
      generalize w6.alloc (.cells #[.int .i64 0, .int .i64 0, .string (str ev.st), .string (str ev.ty), .slice T t1 a, .slice U t2 u2] 65) = w7 at *
      refine hcc.mono ?_
      clear hcc f0 f1 f2 f3
      rintro e w8 hD
      obtain ⟨rfl, S8, M8, hD8, hv8, -, -⟩ := HDb.out.didB hD
      have hpl := HDb.out.lo _ HDb.out.B.pIn
      have HE8 := hid (show Ext w w8 from HEb.out.trans (hD.kept.below hpl hpl HEb.out.size))
      have HD8 := hid hD8
      have HV8 := hid (show viewP L6 = viewP M8 ∧ FoldedV ds (k + 1) (viewP L6) from ⟨by rw [Hv6.out, hv8, hvM.out], by rw [Hv6.out]; exact HV2.out⟩)
      clear hD hD8 hv8 hpl HDb HEb HE6
      generalize afterE (evsOf [((0 : Int), (0 : Int), ev)]) (viewP M') = ae2 at *
      go_wp2_with fail
      go_roundw
      case rel => exact ⟨k + 1, _, _, _, by omega, by omega, by go_num, HD8, HV8, HE8⟩
      case measure => simp [intOf]; omega
    · have hpost := hid (show FoldedIs w ds (.returned (.tuple #[.pointer (some ⟨p, 0, none⟩), .pointer (some ⟨z, 0, none⟩)])) wr from ⟨HE.out, .inr ⟨H0.out, p, z, L', S', rfl, ⟨HD.out.A, HD.out.lt, HD.out.lo⟩, HV.out.2.le hk30⟩⟩)
      by_cases hkn : k < n1
      · have hlt1 : (k : Int) < (n1 : Int) := by omega
        have hlt3 : ¬ ((k : Int) < 30) := by omega
        go_wp2
        go_ret2
        exact hpost.out
      · have hlt1 : ¬ ((k : Int) < (n1 : Int)) := by omega
        go_wp2
        go_ret2
        exact hpost.out
end Go.Proofs.YtakebdeldndaaaaGreat

/- The law CheckBack. -/
namespace Go.Proofs.YtakebdeldndaaaaGreat
open Go Go.RowKit
set_option linter.unusedSimpArgs false
set_option linter.unusedVariables false

theorem ckB_len {ds : List DefV} {last : Int} {V : List (DefV × Ents)} {B : Int} {n : Nat} (hd : defsE ds = 0) (hl : 0 ≤ last ∧ last ≤ 1048576) (hf : FarV B 180 n V) : (Crc.seal_ (ckB ds last V)).length ≤ 1800000 := by
  have h1 := dfsB_len hd
  have h2 := hf.size (by decide)
  have h3 := encB_len (x := last) (by omega)
  have h4 := encT_len (s := dfsB ds) (by omega)
  rw [Crc.seal_length]
  unfold ckB
  rw [List.length_append, List.length_append]
  omega
set_option maxRecDepth 100000 in
set_option maxHeartbeats 8000000 in
theorem checkBack_in (A : Option Addr) (n c : Nat) (ds : List DefV) (last : Int) (A1 : Option Addr) (n1 c1 : Nat) (l : List EvV) (A2 : Option Addr) (n2 c2 : Nat) (os : List DefV) (w : World) (hd : SlR RDef w (· < w.heap.size) A n c ds) (hlast : I64 last) (hl : SlR REv w (· < w.heap.size) A1 n1 c1 l) (ho : SlR RDef w (· < w.heap.size) A2 n2 c2 os) :
    Calls Tryz.prog 3 #[.slice A n c, .agg #[.int .i64 last, .slice A1 n1 c1], .slice A2 n2 c2] w fun e w' => e = .returned (.bool true) ∧ Below w.heap.size w w' := by
  have Hd := hid hd; have Hl := hid hl; have Ho := hid ho; have Hlast := hid hlast
  have hE0 := ext_alloc w (.cells #[.int .i64 last, .slice A1 n1 c1] 25)
  have HE0 := hid hE0
  have HBx := hid (show ∀ W, Ext (w.alloc (.cells #[.int .i64 last, .slice A1 n1 c1] 25)) W → W.cell? ⟨w.heap.size, 0, none⟩ = some (.int .i64 last) ∧ W.cell? ⟨w.heap.size, 1, none⟩ = some (.slice A1 n1 c1) from fun W hE => by
    have h1 := (hE.block w.heap.size (by simp)).trans (heap_alloc_last w (.cells #[.int .i64 last, .slice A1 n1 c1] 25))
    constructor <;> · rw [cell_of_row _ _ _ _ _ _ h1]; rfl)
  have hl1 : -9223372036854775808 ≤ last := hlast.1
  have hl2 : last ≤ 9223372036854775807 := hlast.2
  clear hd hl ho hlast hE0
  go_enter Tryz.func3, Tryz.ntmps3
  go_wp2_with fail
  generalize w.alloc (.cells #[.int .i64 last, .slice A1 n1 c1] 25) = w0 at *
  obtain ⟨bx, hbx⟩ : ∃ bx, bx = w.heap.size := ⟨_, rfl⟩
  rw [← hbx] at HBx ⊢
  clear hbx
  refine (shown17_at w0).mono ?_
  rintro e w1 ⟨rfl, hE1⟩
  have HX1 := hid hE1
  have HE1 := hid (HE0.out.trans' hE1)
  clear hE1
  go_wp2_with fail
  refine (few_at (Hd.out.grow HE1.out)).mono ?_
  rintro e wx ⟨⟨n5, rfl, hn5, hd5⟩, hw⟩
  obtain rfl : w1 = wx := hw.symm
  have HD5 := hid hd5
  clear hw hd5
  generalize ds.take 5 = d5 at *
  obtain ⟨-, b1⟩ := HBx.out w1 HX1.out
  have hcc := folded_at HD5.out (Hl.out.grow HE1.out)
  go_wp2_with fail
  refine hcc.mono ?_
  clear hcc b1
  rintro e w2 ⟨hE2, hans⟩
  have HX2 := hid (HX1.out.trans' hE2)
  have HE2 := hid (HE1.out.trans' hE2)
  have HD52 := hid (HD5.out.grow hE2)
  clear hE2
  rcases hans with ⟨h0, rfl⟩ | ⟨h0, p, z, L, S, rfl, hO, hF⟩
  · clear h0
    go_wp2
    go_ret
    exact ⟨rfl, HE2.out⟩
  have HO := hid hO
  have H0 := hid h0
  have Hfar := hid (hF.far (defsE_zero h0).1 (Nat.le_refl _))
  have Hfst := hid hF.fst
  have Hok := hid (FoldedV.loads hO.A hF (Nat.le_refl _))
  have HPF := hid (Hfar.out.put (by decide))
  have Hvl := hid (show (viewP L).length = d5.length from by rw [← Hfst.out, List.length_map])
  obtain ⟨b0, -⟩ := HBx.out w2 HX2.out
  have hcc := ckPut_at HO.out.A HD52.out Hlast.out HPF.out (by have := Hfar.out.size (by decide); omega)
  clear hO h0 hF
  go_wp2_with fail
  refine hcc.mono ?_
  clear hcc b0
  rintro e w3 ⟨hE3, hans⟩
  have HX3 := hid (HX2.out.trans' hE3)
  have HE3 := hid (HE2.out.trans' hE3)
  have HO3 := hid (HO.out.ext hE3)
  have HD53 := hid (HD52.out.grow hE3)
  obtain ⟨b0, -⟩ := HBx.out w3 HX3.out
  rcases hans with ⟨h, -⟩ | ⟨-, hbad, rfl⟩ | ⟨-, hgood, v, rfl, hOb⟩
  · exact absurd H0.out h
  · have hbad2 : last < 0 ∨ 1048576 < last := by
      rcases hbad with h | h | h
      · exact .inl h
      · exact .inr h
      · exact absurd Hvl.out h
    clear hbad hE3
    by_cases hl0 : last < 0
    · go_wp2
      go_ret
      exact ⟨rfl, HE3.out⟩
    · have hl9 : 1048576 < last := by omega
      go_wp2
      go_ret
      exact ⟨rfl, HE3.out⟩
  have Hl0 := hid (show 0 ≤ last ∧ last ≤ 1048576 from ⟨hgood.1, hgood.2.1⟩)
  have hl0 : ¬ (last < 0) := by have := hgood.1; omega
  have hl9 : ¬ (1048576 < last) := by have := hgood.2.1; omega
  obtain ⟨Ab, nb, cb, rfl, hnb, hcb, hRb⟩ := OB.rd hOb
  have Hnb := hid hnb
  have HRb := hid hRb
  have Hlen := hid (ckB_len (last := last) H0.out Hl0.out Hfar.out)
  have hcc := ckTake_at HD53.out hnb hcb hRb (by rw [hnb]; exact Hlen.out)
  clear hgood hE3 hOb hnb hRb
  go_wp2_with fail
  refine hcc.mono ?_
  clear hcc b0
  rintro e w4 ⟨hE4, hans⟩
  rw [take_put H0.out Hl0.out Hfst.out HPF.out Hok.out] at hans
  rcases hans with ⟨h, -⟩ | ⟨-, h, -⟩ | ⟨-, lst, Es, pt, Lt, St, htk, rfl, hOt, hvt⟩
  · exact absurd H0.out h
  · cases h
  simp only [Option.some.injEq, Prod.mk.injEq] at htk
  obtain ⟨rfl, rfl⟩ := htk
  have hvt2 : viewP Lt = viewP L := by
    rw [hvt, ← Hfst.out]
    exact zip_unzip _
  have HX4 := hid (HX3.out.trans' hE4)
  have HE4 := hid (HE3.out.trans' hE4)
  have HO4 := hid (HO3.out.ext hE4)
  have HT4 := hid hOt
  have Hvt := hid hvt2
  have HD54 := hid (HD53.out.grow hE4)
  have HRb4 := hid (RB.below HRb.out hE4)
  clear hE4 hOt hvt hvt2 HO HO3 HD52
  -- are the others the same?
  go_wp2_with fail
  refine (few_at (Ho.out.grow HE4.out)).mono ?_
  rintro e wx ⟨⟨n6, rfl, hn6, ho5⟩, hw⟩
  obtain rfl : w4 = wx := hw.symm
  have HO5 := hid ho5
  clear hw ho5
  generalize hoE : os.take 5 = o5 at *
  have HoE := hid hoE
  clear hoE
  have hcc := refSameDefs_at HD54.out HO5.out
  generalize hsame : decide (d5 = o5) = same at *
  have Hsame := hid hsame
  clear hsame
  go_wp2_with fail
  refine hcc.mono ?_
  clear hcc
  rintro e w5 ⟨rfl, hE5⟩
  have HX5 := hid (HX4.out.trans' hE5)
  have HE5 := hid (HE4.out.trans' hE5)
  have HO55 := hid (HO4.out.ext hE5)
  have HT5 := hid (HT4.out.ext hE5)
  have HRb5 := hid (RB.below HRb4.out hE5)
  clear hE5 HO5
  go_wp2_with fail
  refine (few_at (Ho.out.grow HE5.out)).mono ?_
  rintro e wx ⟨⟨n7, rfl, hn7, ho5⟩, hw⟩
  obtain rfl : w5 = wx := hw.symm
  rw [HoE.out] at ho5
  have hcc := ckTake_at ho5 Hnb.out hcb HRb5.out (by rw [Hnb.out]; exact Hlen.out)
  clear hw
  go_wp2_with fail
  refine hcc.mono ?_
  clear hcc ho5
  rintro e w6 ⟨hE6, hans⟩
  have HX6 := hid (HX5.out.trans' hE6)
  have HE6 := hid (HE5.out.trans' hE6)
  have HO6 := hid (HO55.out.ext hE6)
  have HT6 := hid (HT5.out.ext hE6)
  have HPT := hid (show PutFit (viewP Lt) by rw [Hvt.out]; exact HPF.out)
  clear hE6 HO55 HT5 HT4 HO4
  rcases hans with ⟨h1, rfl⟩ | ⟨-, -, rfl⟩ | ⟨h1, lst, Es, pu, Lu, Su, htk, rfl, -, -⟩
  · generalize defsE o5 = g at *
    have hg1 : (g != 0) = true := by simpa using h1
    have hg2 : (g == 0) = false := by simpa using h1
    clear h1
    cases same
    · skip
      obtain ⟨b0, -⟩ := HBx.out w6 HX6.out
      have hs1 := states_at HT6.out.A HPT.out
      rw [Hvt.out] at hs1
      go_wp2_with fail
      refine hs1.mono ?_
      clear hs1 b0
      rintro e w7 ⟨rfl, hE7⟩
      have HE7 := hid (HE6.out.trans' hE7)
      have hs2 := states_at (HO6.out.A.ext hE7) HPF.out
      clear hE7
      go_wp2_with fail
      refine hs2.mono ?_
      clear hs2
      rintro e w8 ⟨rfl, hE8⟩
      have HE8 := hid (HE7.out.trans' hE8)
      clear hE8
      go_wp2
      go_ret
      exact ⟨rfl, HE8.out⟩
    · skip
      obtain ⟨b0, -⟩ := HBx.out w6 HX6.out
      have hs1 := states_at HT6.out.A HPT.out
      rw [Hvt.out] at hs1
      go_wp2_with fail
      refine hs1.mono ?_
      clear hs1 b0
      rintro e w7 ⟨rfl, hE7⟩
      have HE7 := hid (HE6.out.trans' hE7)
      have hs2 := states_at (HO6.out.A.ext hE7) HPF.out
      clear hE7
      go_wp2_with fail
      refine hs2.mono ?_
      clear hs2
      rintro e w8 ⟨rfl, hE8⟩
      have HE8 := hid (HE7.out.trans' hE8)
      clear hE8
      go_wp2
      go_ret
      exact ⟨rfl, HE8.out⟩
  · cases same
    · skip
      obtain ⟨b0, -⟩ := HBx.out w6 HX6.out
      have hs1 := states_at HT6.out.A HPT.out
      rw [Hvt.out] at hs1
      go_wp2_with fail
      refine hs1.mono ?_
      clear hs1 b0
      rintro e w7 ⟨rfl, hE7⟩
      have HE7 := hid (HE6.out.trans' hE7)
      have hs2 := states_at (HO6.out.A.ext hE7) HPF.out
      clear hE7
      go_wp2_with fail
      refine hs2.mono ?_
      clear hs2
      rintro e w8 ⟨rfl, hE8⟩
      have HE8 := hid (HE7.out.trans' hE8)
      clear hE8
      go_wp2
      go_ret
      exact ⟨rfl, HE8.out⟩
    · skip
      obtain ⟨b0, -⟩ := HBx.out w6 HX6.out
      have hs1 := states_at HT6.out.A HPT.out
      rw [Hvt.out] at hs1
      go_wp2_with fail
      refine hs1.mono ?_
      clear hs1 b0
      rintro e w7 ⟨rfl, hE7⟩
      have HE7 := hid (HE6.out.trans' hE7)
      have hs2 := states_at (HO6.out.A.ext hE7) HPF.out
      clear hE7
      go_wp2_with fail
      refine hs2.mono ?_
      clear hs2
      rintro e w8 ⟨rfl, hE8⟩
      have HE8 := hid (HE7.out.trans' hE8)
      clear hE8
      go_wp2
      go_ret
      exact ⟨rfl, HE8.out⟩
  · have hs1 : same = true := by
      rw [← Hsame.out]
      refine decide_eq_true ?_
      by_cases hdf : dfsB o5 = dfsB d5
      · exact (dfsB_inj h1 H0.out hdf).symm
      · rw [take_other H0.out Hl0.out hdf] at htk
        cases htk
    subst hs1
    clear htk h1
    obtain ⟨b0, -⟩ := HBx.out w6 HX6.out
    have hs1 := states_at HT6.out.A HPT.out
    rw [Hvt.out] at hs1
    go_wp2_with fail
    refine hs1.mono ?_
    clear hs1 b0
    rintro e w7 ⟨rfl, hE7⟩
    have HE7 := hid (HE6.out.trans' hE7)
    have hs2 := states_at (HO6.out.A.ext hE7) HPF.out
    clear hE7
    go_wp2_with fail
    refine hs2.mono ?_
    clear hs2
    rintro e w8 ⟨rfl, hE8⟩
    have HE8 := hid (HE7.out.trans' hE8)
    clear hE8
    go_wp2
    go_ret
    exact ⟨rfl, HE8.out⟩
end Go.Proofs.YtakebdeldndaaaaGreat

/- The law CheckTurned. -/
namespace Go.Proofs.YtakebdeldndaaaaGreat
open Go Go.RowKit
set_option linter.unusedSimpArgs false
set_option linter.unusedVariables false

theorem ck_xor (a c : UInt8) : bits .xor .u8 (a.toNat : Int) (c.toNat : Int) = ((a ^^^ c).toNat : Int) := by
  rw [u8_xor_nat _ _ a.toNat_lt c.toNat_lt, UInt8.toNat_xor]
theorem ck_byte (y : Int) : ∃ u : UInt8, y % 256 = (u.toNat : Int) := by
  refine ⟨UInt8.ofNat (y % 256).toNat, ?_⟩
  rw [UInt8.toNat_ofNat']
  omega
theorem set_turn {s : List UInt8} {p : Nat} (hp : p < s.length) (u : UInt8) : s.set p (s[p] ^^^ u) = Crc.turnAt s p [u] := by
  have h := Crc.turnAt_snoc s p [] u s[p] (by simpa using hp) (by rw [Crc.turnAt_nil s p (by omega)]; simp)
  rw [Crc.turnAt_nil s p (by omega)] at h
  simpa using h.symm
theorem ckB_six (ds : List DefV) (last : Int) (V : List (DefV × Ents)) : 6 ≤ (Crc.seal_ (ckB ds last V)).length := by
  rw [Crc.seal_length]
  unfold ckB
  rw [List.length_append, List.length_append]
  have h1 : 1 ≤ (encB last).length := varB_pos _
  have h2 : 1 ≤ (encT (dfsB ds)).length := by
    unfold encT
    rw [List.length_append]
    have : 1 ≤ (encB ((dfsB ds).length : Int)).length := varB_pos _
    omega
  omega
set_option maxRecDepth 100000 in
set_option maxHeartbeats 8000000 in
theorem checkTurned_in (A : Option Addr) (n c : Nat) (ds : List DefV) (last : Int) (A1 : Option Addr) (n1 c1 : Nat) (l : List EvV) (y0 y1 : Int) (w : World) (hd : SlR RDef w (· < w.heap.size) A n c ds) (hlast : I64 last) (hl : SlR REv w (· < w.heap.size) A1 n1 c1 l) (hy0 : I64 y0) (hy1 : I64 y1) :
    Calls Tryz.prog 4 #[.slice A n c, .agg #[.int .i64 last, .slice A1 n1 c1], .agg #[.int .i64 y0, .int .i64 y1]] w fun e w' => e = .returned (.bool true) ∧ Below w.heap.size w w' := by
  have Hd := hid hd; have Hl := hid hl
  have hE0 := ext_alloc w (.cells #[.int .i64 last, .slice A1 n1 c1] 25)
  have hE01 := ext_alloc (w.alloc (.cells #[.int .i64 last, .slice A1 n1 c1] 25)) (.cells #[.int .i64 y0, .int .i64 y1] 41)
  have HE0 := hid (hE0.trans' hE01)
  have HBx := hid (show ∀ W, Ext ((w.alloc (.cells #[.int .i64 last, .slice A1 n1 c1] 25)).alloc (.cells #[.int .i64 y0, .int .i64 y1] 41)) W → W.cell? ⟨w.heap.size, 0, none⟩ = some (.int .i64 last) ∧ W.cell? ⟨w.heap.size, 1, none⟩ = some (.slice A1 n1 c1) from fun W hE => by
    have h0 := (hE01.block w.heap.size (by simp)).trans (heap_alloc_last w (.cells #[.int .i64 last, .slice A1 n1 c1] 25))
    have h1 := (hE.block w.heap.size (by simp; omega)).trans h0
    constructor <;> · rw [cell_of_row _ _ _ _ _ _ h1]; rfl)
  have HBy := hid (show ∀ W, Ext ((w.alloc (.cells #[.int .i64 last, .slice A1 n1 c1] 25)).alloc (.cells #[.int .i64 y0, .int .i64 y1] 41)) W → W.cell? ⟨(w.alloc (.cells #[.int .i64 last, .slice A1 n1 c1] 25)).heap.size, 0, none⟩ = some (.int .i64 y0) ∧ W.cell? ⟨(w.alloc (.cells #[.int .i64 last, .slice A1 n1 c1] 25)).heap.size, 1, none⟩ = some (.int .i64 y1) from fun W hE => by
    have h1 := (hE.block (w.alloc (.cells #[.int .i64 last, .slice A1 n1 c1] 25)).heap.size (by simp)).trans (heap_alloc_last (w.alloc (.cells #[.int .i64 last, .slice A1 n1 c1] 25)) (.cells #[.int .i64 y0, .int .i64 y1] 41))
    constructor <;> · rw [cell_of_row _ _ _ _ _ _ h1]; rfl)
  rw [show (w.alloc (.cells #[.int .i64 last, .slice A1 n1 c1] 25)).heap.size = w.heap.size + 1 by simp] at HBy
  clear hd hl hlast hE0 hE01
  go_enter Tryz.func4, Tryz.ntmps4
  go_wp2_with fail
  generalize (w.alloc (.cells #[.int .i64 last, .slice A1 n1 c1] 25)).alloc (.cells #[.int .i64 y0, .int .i64 y1] 41) = w0 at *
  obtain ⟨by_, hby⟩ : ∃ bx, bx = w.heap.size + 1 := ⟨_, rfl⟩
  rw [← hby] at HBy ⊢
  clear hby
  obtain ⟨bx, hbx⟩ : ∃ bx, bx = w.heap.size := ⟨_, rfl⟩
  rw [← hbx] at HBx ⊢
  clear hbx
  refine (shown17_at w0).mono ?_
  rintro e w1 ⟨rfl, hE1⟩
  have HX1 := hid hE1
  have HE1 := hid (HE0.out.trans' hE1)
  clear hE1
  go_wp2_with fail
  refine (few_at (Hd.out.grow HE1.out)).mono ?_
  rintro e wx ⟨⟨n5, rfl, hn5, hd5⟩, hw⟩
  obtain rfl : w1 = wx := hw.symm
  have HD5 := hid hd5
  clear hw hd5
  generalize ds.take 5 = d5 at *
  obtain ⟨-, b1⟩ := HBx.out w1 HX1.out
  have hcc := folded_at HD5.out (Hl.out.grow HE1.out)
  go_wp2_with fail
  refine hcc.mono ?_
  clear hcc b1
  rintro e w2 ⟨hE2, hans⟩
  have HX2 := hid (HX1.out.trans' hE2)
  have HE2 := hid (HE1.out.trans' hE2)
  have HD52 := hid (HD5.out.grow hE2)
  clear hE2
  rcases hans with ⟨h0, rfl⟩ | ⟨h0, p, z, L, S, rfl, hO, hF⟩
  · clear h0
    go_wp2
    go_ret
    exact ⟨rfl, HE2.out⟩
  have HO := hid hO
  have H0 := hid h0
  have Hfar := hid (hF.far (defsE_zero h0).1 (Nat.le_refl _))
  have Hfst := hid hF.fst
  have Hok := hid (FoldedV.loads hO.A hF (Nat.le_refl _))
  have HPF := hid (Hfar.out.put (by decide))
  have Hvl := hid (show (viewP L).length = d5.length from by rw [← Hfst.out, List.length_map])
  have hcc := ckPut_at HO.out.A HD52.out (last := 5) (by unfold I64; omega) HPF.out (by have := Hfar.out.size (by decide); omega)
  clear hO h0 hF
  go_wp2_with fail
  refine hcc.mono ?_
  clear hcc
  rintro e w3 ⟨hE3, hans⟩
  have HX3 := hid (HX2.out.trans' hE3)
  have HE3 := hid (HE2.out.trans' hE3)
  have HD53 := hid (HD52.out.grow hE3)
  rcases hans with ⟨h, -⟩ | ⟨-, hbad, rfl⟩ | ⟨-, hgood, v, rfl, hOb⟩
  · exact absurd H0.out h
  · exfalso
    have := Hvl.out
    rcases hbad with h | h | h
    · omega
    · omega
    · exact h this
  have Hl0 := hid (show (0 : Int) ≤ 5 ∧ (5 : Int) ≤ 1048576 by omega)
  have Hlen := hid (ckB_len (last := 5) H0.out Hl0.out Hfar.out)
  have Hsix := hid (ckB_six d5 5 (viewP L))
  have Htake := hid (take_put H0.out Hl0.out Hfst.out HPF.out Hok.out)
  have Hturn := hid (fun p l h h4 => Crc.good_turn (ckB d5 5 (viewP L)) p l h h4)
  generalize Crc.seal_ (ckB d5 5 (viewP L)) = bs at *
  obtain ⟨Ab, nb, cb, rfl, hnb, hcb, hRb⟩ := OB.rd hOb
  have Hnb := hid hnb
  have HRb := hid hRb
  have hn6 : 6 ≤ nb := by have := Hsix.out; omega
  have hnm : nb ≤ 1800000 := by have := Hlen.out; omega
  obtain ⟨c0, c1'⟩ := HBy.out w3 HX3.out
  clear hgood hE3 hOb hnb hRb HD5 HD52
  by_cases hy : y0 < 0
  · go_wp2
    go_ret
    exact ⟨rfl, HE3.out⟩
  by_cases hyn : y0 < (nb : Int)
  rotate_left
  · have hge : (nb : Int) ≤ y0 := by omega
    go_wp2
    go_ret
    exact ⟨rfl, HE3.out⟩
  obtain ⟨j, rfl⟩ := Int.eq_ofNat_of_zero_le (show 0 ≤ y0 by omega)
  have hnge : ¬ ((nb : Int) ≤ (j : Int)) := by omega
  have hjn : j < nb := by omega
  -- a row of one's own
  have hE0 := ext_alloc w3 (.cells #[] 5)
  have HO0 := hid (show OB (w3.alloc (.cells #[] 5)) w3.heap.size (.slice (some ⟨w3.heap.size, 0, none⟩) 0 0) [] from ⟨by simp [bvs], .inr ⟨w3.heap.size, 0, #[], rfl, Nat.le_refl _, heap_alloc_last w3 _, Nat.le_refl _, by simp [maxLen], by simp, by simp [bvs]⟩⟩)
  have HEs := hid hE0
  have HX := hid (RB.below HRb.out hE0)
  have Hn4 := hid Hnb.out
  have hsz := hE0.size
  clear hE0
  go_wp2_with (at_builtin; refine wpList_appB (w0 := w3) rfl (.tmp 55) (.tmp 56) rfl w3.heap.size _ [] rfl HO0 HEs hsz Ab cb nb bs rfl Hn4 HX (by simp; omega) ?_; intro v4 w4 HO4 HE4 _; rw [List.nil_append] at HO4; obtain ⟨g, c4, rfl, hg1, hg2, hc4, hcell⟩ := OB.cellAt HO4.out (by rw [← Hn4.out]; omega); have HX4 := hid (HX3.out.trans' HE4.out); obtain ⟨f0, f1⟩ := HBy.out w4 HX4.out; clear c0 c1')
  rw [← Hnb.out] at HO4 hc4 ⊢
  obtain ⟨hbj, hfz⟩ := hcell j (by rw [← Hnb.out]; exact hjn)
  have Hst := hid (set_turn (s := bs) (p := j) (by rw [← Hnb.out]; exact hjn))
  generalize bs[j]'(by rw [← Hnb.out]; exact hjn) = b at hbj Hst
  obtain ⟨u, hu⟩ := ck_byte y1
  rw [hu]
  have hxr := ck_xor b u
  have Hset := hid (Hst.out u)
  generalize b ^^^ u = x at hxr Hset
  have HD54 := hid (HD53.out.grow HE4.out)
  have HE43 := hid (HE3.out.trans' HE4.out)
  have hj0 : (0 : Int) ≤ (j : Int) := by omega
  clear hcell Hst HO0 HEs HX hsz
  apply wp_drawn_last 11 [isV _, isV _, isV _, isV _, isV _, isV _, isV _, isV _, isV _, isV (.int .u8 (x.toNat : Int)), isV _] (by decide) (by kernel_rfl)
  · kernel_rfl
  · kernel_rfl
  · refine ⟨?cts0, ?cts1, ?cts2, ?cts3, ?cts4, ?cts5, ?cts6, ?cts7, ?cts8, ?cts9, ?cts10, trivial⟩
    case cts0 =>
      intro v W hE hd; simp only [Region.wanted, ↓reduceIte]; (try simp [deps, waitsOn, Region.binds, knowing, isV, ownsV, anyV] at hd); simp only [putAll, List.take_succ_cons, List.take_zero, List.drop_succ_cons, List.drop_zero, Act.put, List.setIfInBounds_toArray, List.set_cons_zero, List.set_cons_succ, Nat.zero_add, Nat.reduceAdd]; go_simp; exact ⟨Below.refl _ _, rfl⟩
    case cts1 =>
      intro v W hE hd; simp only [Region.wanted, ↓reduceIte]; (try simp [deps, waitsOn, Region.binds, knowing, isV, ownsV, anyV] at hd); simp only [putAll, List.take_succ_cons, List.take_zero, List.drop_succ_cons, List.drop_zero, Act.put, List.setIfInBounds_toArray, List.set_cons_zero, List.set_cons_succ, Nat.zero_add, Nat.reduceAdd]; go_simp; exact ⟨Below.refl _ _, rfl⟩
    case cts2 =>
      intro v W hE hd; simp only [Region.wanted, ↓reduceIte]; (try simp [deps, waitsOn, Region.binds, knowing, isV, ownsV, anyV] at hd); simp only [putAll, List.take_succ_cons, List.take_zero, List.drop_succ_cons, List.drop_zero, Act.put, List.setIfInBounds_toArray, List.set_cons_zero, List.set_cons_succ, Nat.zero_add, Nat.reduceAdd]
      have e1 := cell_below hE f0
      go_simp
      exact ⟨Below.refl _ _, rfl⟩
    case cts3 =>
      intro v W hE hd; simp only [Region.wanted, ↓reduceIte]; (try simp [deps, waitsOn, Region.binds, knowing, isV, ownsV, anyV] at hd); simp only [putAll, List.take_succ_cons, List.take_zero, List.drop_succ_cons, List.drop_zero, Act.put, List.setIfInBounds_toArray, List.set_cons_zero, List.set_cons_succ, Nat.zero_add, Nat.reduceAdd]; go_simp; exact ⟨Below.refl _ _, rfl⟩
    case cts4 =>
      intro v W hE hd; simp only [Region.wanted, ↓reduceIte]; (try simp [deps, waitsOn, Region.binds, knowing, isV, ownsV, anyV] at hd); simp only [putAll, List.take_succ_cons, List.take_zero, List.drop_succ_cons, List.drop_zero, Act.put, List.setIfInBounds_toArray, List.set_cons_zero, List.set_cons_succ, Nat.zero_add, Nat.reduceAdd]; go_simp; exact ⟨Below.refl _ _, rfl⟩
    case cts5 =>
      intro v W hE hd; simp only [Region.wanted, ↓reduceIte]; (try simp [deps, waitsOn, Region.binds, knowing, isV, ownsV, anyV] at hd); simp only [putAll, List.take_succ_cons, List.take_zero, List.drop_succ_cons, List.drop_zero, Act.put, List.setIfInBounds_toArray, List.set_cons_zero, List.set_cons_succ, Nat.zero_add, Nat.reduceAdd]
      have e1 := cell_below hE f0
      go_simp
      exact ⟨Below.refl _ _, rfl⟩
    case cts6 =>
      intro v W hE hd; simp only [Region.wanted, ↓reduceIte]; (try simp [deps, waitsOn, Region.binds, knowing, isV, ownsV, anyV] at hd); simp only [putAll, List.take_succ_cons, List.take_zero, List.drop_succ_cons, List.drop_zero, Act.put, List.setIfInBounds_toArray, List.set_cons_zero, List.set_cons_succ, Nat.zero_add, Nat.reduceAdd]
      have e1 : ((j : Int)).toNat = j := by omega
      go_simp
      exact ⟨Below.refl _ _, rfl⟩
    case cts7 =>
      intro v W hE hd; simp only [Region.wanted, ↓reduceIte]; (try simp [deps, waitsOn, Region.binds, knowing, isV, ownsV, anyV] at hd); simp only [putAll, List.take_succ_cons, List.take_zero, List.drop_succ_cons, List.drop_zero, Act.put, List.setIfInBounds_toArray, List.set_cons_zero, List.set_cons_succ, Nat.zero_add, Nat.reduceAdd]
      have e1 := cell_below hE hbj
      go_simp
      exact ⟨Below.refl _ _, rfl⟩
    case cts8 =>
      intro v W hE hd; simp only [Region.wanted, ↓reduceIte]; (try simp [deps, waitsOn, Region.binds, knowing, isV, ownsV, anyV] at hd); simp only [putAll, List.take_succ_cons, List.take_zero, List.drop_succ_cons, List.drop_zero, Act.put, List.setIfInBounds_toArray, List.set_cons_zero, List.set_cons_succ, Nat.zero_add, Nat.reduceAdd]; go_simp; exact ⟨Below.refl _ _, rfl⟩
    case cts9 =>
      intro v W hE hd; simp only [Region.wanted, ↓reduceIte]; (try simp [deps, waitsOn, Region.binds, knowing, isV, ownsV, anyV] at hd); simp only [putAll, List.take_succ_cons, List.take_zero, List.drop_succ_cons, List.drop_zero, Act.put, List.setIfInBounds_toArray, List.set_cons_zero, List.set_cons_succ, Nat.zero_add, Nat.reduceAdd]
      have e1 := hxr
      go_simp
      exact ⟨Below.refl _ _, rfl⟩
    case cts10 =>
      intro v W hE hd; simp only [Region.wanted, ↓reduceIte]; (try simp [deps, waitsOn, Region.binds, knowing, isV, ownsV, anyV] at hd); simp only [putAll, List.take_succ_cons, List.take_zero, List.drop_succ_cons, List.drop_zero, Act.put, List.setIfInBounds_toArray, List.set_cons_zero, List.set_cons_succ, Nat.zero_add, Nat.reduceAdd]
      have e1 : ((j : Int)).toNat = j := by omega
      go_simp
      exact ⟨Below.refl _ _, rfl⟩
  · rintro v W9 hE ⟨-, -, -, -, -, -, -, -, -, e9, e10, -⟩
    have e9 := (show v 9 = _ from e9)
    have e10 := (show v 10 = _ from e10)
    simp only [putAll, List.take_succ_cons, List.take_zero, List.drop_succ_cons, List.drop_zero, Act.put, List.setIfInBounds_toArray, List.set_cons_zero, List.set_cons_succ, Nat.zero_add, Nat.reduceAdd]
    rw [e9, e10]
    have hf1 := (hE.frozen (p := ⟨g, j, none⟩) hg2).trans hfz
    have hc1 := cell_below hE hbj
    have hst := (OB.below HO4.out hE).stored Hn4.out j x
    have Hst := hid hst
    have HE9 := hid (show Ext w3 (W9.setCell ⟨g, j, none⟩ (.int .u8 (x.toNat : Int))) from (below_then HE4.out HE4.out.size hE).setCell hg1 _)
    have Hgd := hid (show Crc.good (bs.set j x) = decide (u = 0) by
      have h := Hturn.out j [u] (by rw [← Hn4.out]; simp; omega) (by simp)
      rw [← Hset.out] at h
      rw [h]; simp)
    have Hid0 := hid (show u = 0 → bs.set j x = bs by
      rintro rfl
      rw [Hset.out]
      exact Crc.turnAt_zero bs j [0] (by rw [← Hn4.out]; simp; omega) (by simp))
    have hs9 := HE4.out.size
    clear hst hE e9 e10
    go_wp2_with fail
    generalize W9.setCell ⟨g, j, none⟩ (.int .u8 (x.toNat : Int)) = w5 at *
    have HE5 := hid (HE3.out.trans' HE9.out)
    obtain ⟨A9, m9, c9, e9, -, -, hbr⟩ := OB.rd Hst.out
    simp only [Value.slice.injEq] at e9
    obtain ⟨rfl, rfl, rfl⟩ := e9
    have hcc := ckTake_at (HD53.out.grow HE9.out) (show nb = (bs.set j x).length by rw [List.length_set]; exact Hn4.out) hc4 hbr (by omega)
    clear hbr
    refine hcc.mono ?_
    clear hcc
    rintro e w6 ⟨hE6, hans⟩
    have HE6 := hid (HE5.out.trans' hE6)
    clear hE6
    have hn6i : (6 : Int) ≤ (nb : Int) := by omega
    by_cases hu0 : u = 0
    · rw [Hid0.out hu0, Htake.out] at hans
      have hz : (u.toNat : Int) = 0 := by rw [hu0]; rfl
      generalize (u.toNat : Int) = zu at *
      subst hz
      rcases hans with ⟨h, -⟩ | ⟨-, h, -⟩ | ⟨-, lst, Es, pt, Lt, St, htk, rfl, -, -⟩
      · exact absurd H0.out h
      · cases h
      clear htk
      go_wp2
      go_ret
      exact ⟨rfl, HE6.out⟩
    · have hz : ((u.toNat : Int) == 0) = false := by
        rw [beq_eq_false_iff_ne]
        intro h
        exact hu0 (UInt8.toNat_inj.1 (by show u.toNat = 0; omega))
      rw [take_bad (by rw [Hgd.out]; exact decide_eq_false hu0)] at hans
      rcases hans with ⟨h, -⟩ | ⟨-, -, rfl⟩ | ⟨-, lst, Es, pt, Lt, St, htk, rfl, -, -⟩
      · exact absurd H0.out h
      rotate_left
      · cases htk
      go_wp2
      go_ret
      exact ⟨rfl, HE6.out⟩
end Go.Proofs.YtakebdeldndaaaaGreat
