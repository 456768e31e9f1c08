/- The walk of chapter 8's shown; lists of one file. -/
import Derived.Test.YtpipmkaljkhgiaaDoorDisk20
import Derived.Lib.SlBytesConst
namespace Go.Proofs.YtpipmkaljkhgiaaDoor
open Go Go.RowKit
set_option linter.unusedSimpArgs false
set_option linter.unusedVariables false

def nA : List UInt8 := [97]
def nB : List UInt8 := [98]
theorem may_nA : mayB nA = true := by decide
theorem may_nB : mayB nB = true := by decide
theorem atF_one (nm : List UInt8) (f : File) : atF [(nm, f)] nm = some f := by simp [atF]
theorem putF_one (nm : List UInt8) (f g : File) : putF nm g [(nm, f)] = [(nm, g)] := by simp [putF, delF, insF]
theorem putF_nil (nm : List UInt8) (g : File) : putF nm g [] = [(nm, g)] := by simp [putF, delF, insF]
theorem app_one {q : Int} {nm : List UInt8} {f : File} {bs : List UInt8} (hm : mayB nm = true) (h1 : f.b.length + bs.length ≤ 65536) (h2 : ((f.b.length + bs.length : Nat) : Int) ≤ q) :
    appE q (-1) [(nm, f)] nm bs = 0 ∧ appF q (-1) [(nm, f)] nm bs = [(nm, ⟨f.b ++ bs, f.safe⟩)] := by
  have e : appE q (-1) [(nm, f)] nm bs = 0 := by
    unfold appE oldF
    rw [atF_one]
    simp only [Option.getD_some]
    rw [if_neg (by decide), if_neg (by rw [hm]; decide), if_neg (by rintro (h | h); omega; cases h.1), if_neg (by simp [usedF]; omega)]
  refine ⟨e, ?_⟩
  unfold appF oldF
  rw [if_pos e, atF_one, putF_one]; rfl
theorem app_none {q : Int} {nm : List UInt8} {bs : List UInt8} (hm : mayB nm = true) (h1 : bs.length ≤ 65536) (h2 : (bs.length : Int) ≤ q) :
    appE q (-1) [] nm bs = 0 ∧ appF q (-1) [] nm bs = [(nm, ⟨bs, 0⟩)] := by
  have e : appE q (-1) [] nm bs = 0 := by
    unfold appE oldF atF
    simp only [List.find?_nil, Option.map_none, Option.getD_none, List.length_nil]
    rw [if_neg (by decide), if_neg (by rw [hm]; decide), if_neg (by omega), if_neg (by simp [usedF]; omega)]
  refine ⟨e, ?_⟩
  unfold appF oldF atF
  rw [if_pos e, putF_nil]; rfl
theorem sync_one (nm : List UInt8) (f : File) : syncF (-1) [(nm, f)] nm = [(nm, ⟨f.b, f.b.length⟩)] := by
  unfold syncF; rw [if_neg (by decide), atF_one]; exact putF_one nm f _
theorem known_one (nm : List UInt8) (f : File) : knownEF (-1) [(nm, f)] nm = 0 := by
  unfold knownEF; rw [if_neg (by decide), atF_one]; rfl
theorem crash_one (keep : Int) (nm : List UInt8) (f : File) : crashF keep [(nm, f)] = [(nm, crash1 keep f)] := rfl
theorem read_one (nm : List UInt8) (f : File) : readE [(nm, f)] nm = 0 ∧ readB [(nm, f)] nm = f.b := by
  unfold readE readB; rw [atF_one]; exact ⟨rfl, rfl⟩
theorem burn_none : burnL (-1) = -1 := by decide
/-- A disk of a law's own, from world w0 on. -/
structure Run (w0 w : World) (S : Nat → Prop) (d m : Nat) (q l : Int) (F : Files) : Prop where
  is : DiskIs w S d m q l F
  below : Below w0.heap.size w0 w
  dl : w0.heap.size ≤ d
  ml : w0.heap.size ≤ m
  old : ∀ k, S k → w0.heap.size ≤ k
section
variable {w0 w w' : World} {S : Nat → Prop} {d m : Nat} {q l l' : Int} {F F' : Files}
theorem Run.next (h : Run w0 w S d m q l F) (hi : DiskIs w' S d m q l' F') (hk : Kept2 d m w w') : Run w0 w' S d m q l' F' :=
  ⟨hi, h.below.trans (hk.below h.dl h.ml h.below.size), h.dl, h.ml, h.old⟩
theorem Run.ext (h : Run w0 w S d m q l F) (hE : Ext w w') : Run w0 w' S d m q l F := ⟨h.is.ext hE, below_then h.below h.below.size hE, h.dl, h.ml, h.old⟩
theorem Run.made {w1 : World} (hB : Below w0.heap.size w0 w) (hd : w.heap.size ≤ d) (hm : w.heap.size ≤ m) (hi : DiskIs w' (fun k => k = d ∨ k = m) d m q l F) (hE : Ext w w') : Run w0 w' (fun k => k = d ∨ k = m) d m q l F :=
  ⟨hi, below_then hB hB.size hE, Nat.le_trans hB.size hd, Nat.le_trans hB.size hm, fun k hk => by have := hB.size; rcases hk with rfl | rfl <;> omega⟩
/-- Bytes that were there ahead of the law's own memory. -/
theorem Run.arg (h : Run w0 w S d m q l F) {A : Option Addr} {bs : List UInt8} (hr : RB w0 A bs) : RS w S A bs := by
  have h1 : RK w0 (fun k => k < w0.heap.size) A (bvs bs) := RK.of_rv hr fun b o e hlt => hlt
  refine (h1.ext fun k hk => h.below.block k hk).mono fun k hk => ⟨Nat.lt_of_lt_of_le hk h.below.size, fun hs => ?_⟩
  have := h.old k hs
  omega
theorem Run.arg_rb (h : Run w0 w S d m q l F) {A : Option Addr} {bs : List UInt8} (hr : RB w0 A bs) : RB w A bs := RB.below hr h.below
/-- Bytes of one's own, made when S's blocks were all there. -/
theorem rs_own {w1 : World} {v : Value} {bs : List UInt8} (h : OB w w1.heap.size v bs) (hS : ∀ k, w1.heap.size ≤ k → ¬ S k) : ∃ A c, v = .slice A bs.length c ∧ bs.length ≤ c ∧ RS w S A bs := by
  obtain ⟨h1, h2⟩ := h
  rcases h2 with ⟨rfl, h0⟩ | ⟨g, cap, cur, rfl, hb', hg, hn, hm, hsz, ht⟩
  · have h00 : bs = [] := by
      cases bs with
      | nil => rfl
      | cons x l => simp [bvs] at h0
    subst h00
    exact ⟨none, 0, rfl, Nat.le_refl _, .inl rfl⟩
  · have hrow : w.ownsRow w1.heap.size 5 1 (.slice (some ⟨g, 0, none⟩) bs.length cap) bs.length (bvs bs) := ⟨h1, .inr ⟨g, cap, cur, rfl, hb', hg, hn, hm, hsz, ht⟩⟩
    obtain ⟨A, c, e, hc, hr⟩ := RV.own hrow
    simp only [Value.slice.injEq] at e
    obtain ⟨rfl, -, rfl⟩ := e
    refine ⟨_, _, rfl, hn, RK.of_rv hr fun b o e hlt => ⟨hlt, hS b ?_⟩⟩
    simp only [Option.some.injEq, Addr.mk.injEq, and_true] at e
    obtain ⟨rfl, rfl⟩ := e
    exact hb'
/-- Bytes that were laid in a box. -/
theorem rs_box (hS : ∀ k, w.heap.size ≤ k → ¬ S k) (ys : Array Value) (bs : List UInt8) (h : ys.toList = bvs bs) : RS (w.alloc (.cells ys 5)) S (some ⟨w.heap.size, 0, none⟩) bs :=
  .inr ⟨_, _, rfl, ⟨by simp, hS _ (Nat.le_refl _)⟩, fun j v hv => by
    rw [cell_of_row _ _ _ _ _ _ (heap_alloc_last w _), ← Array.getElem?_toList, h, Nat.zero_add]
    exact hv⟩
theorem rs_boxf (hS : ∀ k, w.heap.size ≤ k → ¬ S k) (ys : Array Value) (fr : Nat × Nat) (bs : List UInt8) (h : ys.toList = bvs bs) : RS (w.alloc (.cells ys 5 fr)) S (some ⟨w.heap.size, 0, none⟩) bs :=
  .inr ⟨_, _, rfl, ⟨by simp, hS _ (Nat.le_refl _)⟩, fun j v hv => by
    rw [cell_of_row _ _ _ _ _ _ (heap_alloc_last w _), ← Array.getElem?_toList, h, Nat.zero_add]
    exact hv⟩
theorem Run.append (h : Run w0 w S d m q l F) (nm : List UInt8) (hn : nm.length ≤ 9223372036854775807) (A : Option Addr) (n c : Nat) (bs : List UInt8) (hnb : n = bs.length) (hn1 : n ≤ 100000000) (hA : RS w S A bs) :
    Calls Tryd.prog 12 #[.pointer (some ⟨d, 0, none⟩), .string (str nm), .slice A n c] w fun e w' => e = .returned (.int .i64 (appE q l F nm bs)) ∧ Run w0 w' S d m q (burnL l) (appF q l F nm bs) ∧ Kept2 d m w w' :=
  (append_at h.is nm hn A n c bs hnb hn1 hA).mono fun _ _ ⟨he, h1, h2⟩ => ⟨he, h.next h1 h2, h2⟩
theorem Run.sync (h : Run w0 w S d m q l F) (nm : List UInt8) (hn : nm.length ≤ 9223372036854775807) :
    Calls Tryd.prog 13 #[.pointer (some ⟨d, 0, none⟩), .string (str nm)] w fun e w' => e = .returned (.int .i64 (knownEF l F nm)) ∧ Run w0 w' S d m q (burnL l) (syncF l F nm) ∧ Kept2 d m w w' :=
  (sync_at h.is nm hn).mono fun _ _ ⟨he, h1, h2⟩ => ⟨he, h.next h1 h2, h2⟩
theorem Run.remove (h : Run w0 w S d m q l F) (nm : List UInt8) (hn : nm.length ≤ 9223372036854775807) :
    Calls Tryd.prog 19 #[.pointer (some ⟨d, 0, none⟩), .string (str nm)] w fun e w' => e = .returned (.int .i64 (knownEF l F nm)) ∧ Run w0 w' S d m q (burnL l) (dropF l F nm) ∧ Kept2 d m w w' :=
  (remove_at h.is nm hn).mono fun _ _ ⟨he, h1, h2⟩ => ⟨he, h.next h1 h2, h2⟩
theorem Run.trunc (h : Run w0 w S d m q l F) (nm : List UInt8) (hn : nm.length ≤ 9223372036854775807) (t : Int) :
    Calls Tryd.prog 14 #[.pointer (some ⟨d, 0, none⟩), .string (str nm), .int .i64 t] w fun e w' => e = .returned (.int .i64 (truncEF l F nm t)) ∧ Run w0 w' S d m q (burnL l) (truncF l F nm t) ∧ Kept2 d m w w' :=
  (trunc_at h.is nm hn t).mono fun _ _ ⟨he, h1, h2⟩ => ⟨he, h.next h1 h2, h2⟩
theorem Run.rename (h : Run w0 w S d m q l F) (na nb : List UInt8) (hna : na.length ≤ 9223372036854775807) (hnb : nb.length ≤ 9223372036854775807) :
    Calls Tryd.prog 25 #[.pointer (some ⟨d, 0, none⟩), .string (str na), .string (str nb)] w fun e w' => e = .returned (.int .i64 (renEF l F na nb)) ∧ Run w0 w' S d m q (burnL l) (renF l F na nb) ∧ Kept2 d m w w' :=
  (rename_at h.is na nb hna hnb).mono fun _ _ ⟨he, h1, h2⟩ => ⟨he, h.next h1 h2, h2⟩
theorem Run.turn (h : Run w0 w S d m q l F) (nm : List UInt8) (hn : nm.length ≤ 9223372036854775807) (t : Int) :
    Calls Tryd.prog 21 #[.pointer (some ⟨d, 0, none⟩), .string (str nm), .int .i64 t] w fun e w' => e = .returned (.int .i64 (turnEF F nm t)) ∧ Run w0 w' S d m q l (turnF F nm t) ∧ Kept2 d m w w' :=
  (turn_at h.is nm hn t).mono fun _ _ ⟨he, h1, h2⟩ => ⟨he, h.next h1 h2, h2⟩
theorem Run.crash (h : Run w0 w S d m q l F) (keep : Int) (hk : keep ≤ 9223372036854775807) :
    Calls Tryd.prog 16 #[.pointer (some ⟨d, 0, none⟩), .int .i64 keep] w fun e w' => e = .returned (.tuple #[]) ∧ Run w0 w' S d m q (-1) (crashF keep F) ∧ Kept2 d m w w' :=
  (crash_at h.is keep hk).mono fun _ _ ⟨he, h1, h2⟩ => ⟨he, h.next h1 h2, h2⟩
theorem Run.fuse (h : Run w0 w S d m q l F) (n : Int) (hk : n ≤ 9223372036854775807) :
    Calls Tryd.prog 22 #[.pointer (some ⟨d, 0, none⟩), .int .i64 n] w fun e w' => e = .returned (.tuple #[]) ∧ Run w0 w' S d m q (max n 0) F ∧ Kept2 d m w w' :=
  (fuse_at h.is hk).mono fun _ _ ⟨he, h1, h2⟩ => ⟨he, h.next h1 h2, h2⟩
theorem Run.read (h : Run w0 w S d m q l F) (nm : List UInt8) (hn : nm.length ≤ 9223372036854775807) :
    Calls Tryd.prog 15 #[.pointer (some ⟨d, 0, none⟩), .string (str nm)] w fun e w' => ∃ v, e = .returned (.tuple #[v, .int .i64 (readE F nm)]) ∧ OB w' w.heap.size v (readB F nm) ∧ Ext w w' ∧ Run w0 w' S d m q l F :=
  (readF_at h.is nm hn).mono fun _ _ ⟨v, he, h1, h2⟩ => ⟨v, he, h1, h2, h.ext h2⟩
theorem Run.used (h : Run w0 w S d m q l F) :
    Calls Tryd.prog 18 #[.pointer (some ⟨d, 0, none⟩)] w fun e w' => e = .returned (.int .i64 (usedF F : Int)) ∧ Ext w w' ∧ Run w0 w' S d m q l F :=
  (used_at h.is).mono fun _ _ ⟨he, h1⟩ => ⟨he, h1, h.ext h1⟩
end
theorem run_new {w0 w : World} (hB : Below w0.heap.size w0 w) (q : Int) :
    Calls Tryd.prog 10 #[.int .i64 q] w fun e w' => ∃ d m, e = .returned (.pointer (some ⟨d, 0, none⟩)) ∧ Run w0 w' (fun k => k = d ∨ k = m) d m (max q 0) (-1) [] :=
  (newDisk_at q).mono fun _ _ ⟨d, m, he, h1, h2, h3, h4⟩ => ⟨d, m, he, Run.made (w1 := w) hB h1 h2 h3 h4⟩
set_option maxRecDepth 100000 in
set_option maxHeartbeats 2000000 in
theorem shown_at (w : World) : Calls Tryd.prog 9 #[] w fun e w' => e = .returned (.bool true) ∧ Ext w w' := by
  have kc := fun (w : World) (C : Array Value) (n c : Nat) => Lib.run_convert_bytes_const (P := Tryd.prog) w 22 5 C n c Tryd.underlying22 Tryd.underlying5
  have hstr : (⟨#[97]⟩ : ByteArray) = str nA := rfl
  go_enter Tryd.func9, Tryd.ntmps9
  go_wp2_with fail
  refine (run_new (Below.refl _ w) 100).mono ?_
  rintro e w1 ⟨d, m, rfl, hR⟩
  have HR := hid hR; clear hR
  go_wp2_with fail
  rw [show max (100 : Int) 0 = 100 by decide] at HR
  have H1 := app_none (q := 100) (nm := nA) (bs := [49, 50, 51, 52]) may_nA (by decide) (by decide)
  refine ((HR.out.ext ((Below.refl _ _).alloc (Nat.le_refl _) _)).append nA (by decide) _ 4 4 [49, 50, 51, 52] rfl (by omega) (rs_boxf HR.out.is.fresh _ _ _ (by rfl))).mono ?_
  rintro e w2 ⟨rfl, hR, -⟩
  rw [H1.1, burn_none, H1.2] at *
  have HR2 := hid hR; clear hR H1 HR
  go_wp2_with fail
  refine (HR2.out.sync nA (by decide)).mono ?_
  rintro e w3 ⟨rfl, hR, -⟩
  rw [known_one, burn_none, sync_one] at *
  have HR3 := hid hR; clear hR HR2
  go_wp2_with fail
  have H1 := app_one (q := 100) (nm := nA) (f := ⟨[49, 50, 51, 52], 4⟩) (bs := [53, 54]) may_nA (by decide) (by decide)
  refine ((HR3.out.ext ((Below.refl _ _).alloc (Nat.le_refl _) _)).append nA (by decide) _ 2 2 [53, 54] rfl (by omega) (rs_boxf HR3.out.is.fresh _ _ _ (by rfl))).mono ?_
  rintro e w4 ⟨rfl, hR, -⟩
  rw [show ([49, 50, 51, 52] : List UInt8).length = 4 from rfl] at *
  rw [H1.1, burn_none, H1.2] at *
  have HR4 := hid hR; clear hR H1 HR3
  go_wp2_with fail
  refine (HR4.out.crash 1 (by decide)).mono ?_
  rintro e w5 ⟨rfl, hR, -⟩
  rw [crash_one, show crash1 1 ⟨[49, 50, 51, 52] ++ [53, 54], 4⟩ = ⟨[49, 50, 51, 52, 53], 5⟩ from rfl] at hR
  have HR5 := hid hR; clear hR HR4
  go_wp2_with fail
  refine (HR5.out.read nA (by decide)).mono ?_
  rintro e w6 ⟨v, rfl, hO, hE, hR⟩
  rw [(read_one _ _).1, (read_one _ _).2] at *
  obtain ⟨A, c, rfl, -, hr⟩ := OB.read hO
  have hs := run_str hr c
  have e3 := str_toList [49, 50, 51, 52, 53]
  rw [show ([49, 50, 51, 52, 53] : List UInt8).length = 5 from rfl] at hs ⊢
  have HR6 := hid hR; clear hR HR5 hO hE hr
  go_wp2
  go_ret
  exact ⟨rfl, HR6.out.below⟩
end Go.Proofs.YtpipmkaljkhgiaaDoor
