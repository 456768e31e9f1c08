/- Which events a query asks for, as the document says. -/
import Derived.Test.YtpmmapcjohmniaaGreatQu3
namespace Go.Proofs.YtpmmapcjohmniaaGreat
open Go Go.RowKit
set_option linter.unusedSimpArgs false
set_option linter.unusedVariables false

/-- A clause's box. -/
def ClBox (bx : Nat) (A : Option Addr) (n a : Nat) (B : Option Addr) (m b : Nat) (w : World) : Prop := w.heap[bx]? = some (.cells #[.slice A n a, .slice B m b] 80)
theorem ClBox.cells {bx : Nat} {A B : Option Addr} {n a m b : Nat} {w : World} (h : ClBox bx A n a B m b w) : w.cell? ⟨bx, 0, none⟩ = some (.slice A n a) ∧ w.cell? ⟨bx, 1, none⟩ = some (.slice B m b) := by
  refine ⟨?_, ?_⟩ <;> · rw [cell_of_row _ _ _ _ _ _ h]; rfl
theorem ClBox.ext {bx : Nat} {A B : Option Addr} {n a m b : Nat} {w w' : World} (h : ClBox bx A n a B m b w) (hE : Ext w w') : ClBox bx A n a B m b w' := (hE.block bx (Array.getElem?_eq_some_iff.1 h).1).trans h
set_option maxRecDepth 100000 in
set_option maxHeartbeats 4000000 in
theorem refClause_at {w : World} {A' B' : Option Addr} {n a m b : Nat} {c : ClV} (hT : SlR Rep.txt w (· < w.heap.size) A' n a c.tags) (hU : SlR Rep.txt w (· < w.heap.size) B' m b c.types) {A B : Option Addr} {n' c' m' d' : Nat} {e : EvV} (h : EvIn w A n' c' B m' d' e) :
    Calls Tryz.prog 47 #[.agg #[.slice A' n a, .slice B' m b], evVal A n' c' B m' d' e] w fun x w' => x = .returned (.bool (clauseB e c)) ∧ Ext w w' := by
  have hst := str_toList
  have hn := hid hT.1
  have hm := hid hU.1
  have hna := hT.2.1
  have hac := hT.2.2.1
  have hmb := hU.2.1
  have hbc := hU.2.2.1
  have hv := hid (show evVal A n' c' B m' d' e = .agg #[.string (str e.st), .string (str e.ty), .slice A n' c', .slice B m' d'] from rfl)
  rw [hv.out]
  have HEc := hid (ext_alloc w (.cells #[.slice A' n a, .slice B' m b] 80))
  have Hcx0 := hid (show ClBox w.heap.size A' n a B' m b (w.alloc (.cells #[.slice A' n a, .slice B' m b] 80)) from heap_alloc_last _ _)
  have hsz : (w.alloc (.cells #[.slice A' n a, .slice B' m b] 80)).heap.size = w.heap.size + 1 := by simp
  have HE0 := hid (ext_alloc (w.alloc (.cells #[.slice A' n a, .slice B' m b] 80)) (.cells #[.string (str e.st), .string (str e.ty), .slice A n' c', .slice B m' d'] 45))
  have Hbx := hid (show EvBox (w.heap.size + 1) A n' c' B m' d' e ((w.alloc (.cells #[.slice A' n a, .slice B' m b] 80)).alloc (.cells #[.string (str e.st), .string (str e.ty), .slice A n' c', .slice B m' d'] 45)) from by have := heap_alloc_last (w.alloc (.cells #[.slice A' n a, .slice B' m b] 80)) (.cells #[.string (str e.st), .string (str e.ty), .slice A n' c', .slice B m' d'] 45); rw [hsz] at this; exact this)
  have Hcx := hid (Hcx0.out.ext HE0.out)
  have HEE := hid (Ext.trans' HEc.out HE0.out)
  have H1 := hid (h.grow HEE.out)
  have HT := hid (hT.grow HEE.out)
  have HU := hid (hU.grow HEE.out)
  have Hc := hid (show clauseB e c = (!(c.tags.any fun s => !hasT e.tags s) && (decide (c.types.length = 0) || c.types.any (e.ty == ·))) from rfl)
  clear Hcx0 hT hU h
  go_enter Tryz.func47, Tryz.ntmps47
  go_wp2_with fail
  generalize (w.alloc (.cells #[.slice A' n a, .slice B' m b] 80)).alloc (.cells #[.string (str e.st), .string (str e.ty), .slice A n' c', .slice B m' d'] 45) = w1 at HEE Hbx Hcx H1 HT HU HE0 ⊢
  clear HE0 HEc hsz
  go_loopw [5] (fun i wr => ∃ k : Nat, k ≤ n ∧ i = .int .i64 (k : Int) ∧ Hid (Ext w1 wr) ∧ Hid (∀ j (hj : j < k) (h : j < c.tags.length), hasT e.tags c.tags[j] = true)) (fun i _ => n - (intOf i).toNat)
  case atStart => exact ⟨0, by omega, rfl, Below.refl _ _, fun j hj => by omega⟩
  case round =>
    obtain ⟨k, hk, rfl, HE, HN⟩ := hrel
    obtain ⟨c0, -⟩ := (Hcx.out.ext HE.out).cells
    by_cases hlt : k < n
    · have hkx : k < c.tags.length := by have := hn.out; omega
      have hlt' : (k : Int) < (n : Int) := by omega
      have hk00 : ¬ ((k : Int) < 0) := by omega
      have hk0 : (0 : Int) ≤ (k : Int) := by omega
      obtain ⟨bb, o, rfl, -, f0, -⟩ := txt_at (HT.out.grow HE.out) k hkx
      have Hm := hid (show c.tags[k] ∈ c.tags from List.getElem_mem hkx)
      have Hk := hid (show ∀ (hp : hasT e.tags c.tags[k] = true) j (hj : j < k + 1) (h : j < c.tags.length), hasT e.tags c.tags[j] = true from fun hp j hj h => by
        rcases Nat.lt_succ_iff_lt_or_eq.1 hj with h' | rfl
        · exact HN.out j h' h
        · exact hp)
      generalize c.tags[k] = x at f0 Hm Hk
      have F0 := hid f0
      clear f0
      go_wp2_with fail
      clear c0
      apply wp_drawn [isV _, isV _, isV _, isV _, isV _, isV _, isV _, isV _] (by kernel_rfl)
      · kernel_rfl
      · refine ⟨?ras0, ?ras1, ?ras2, ?ras3, ?ras4, ?ras5, ?ras6, ?ras7, trivial⟩
        case ras0 =>
          intro v W hE hd; simp only [Region.wanted, ↓reduceIte]; (try simp [deps, waitsOn, Region.binds, knowing, isV, ownsV, anyV] at hd); simp only [putAll, List.take_succ_cons, List.take_zero, List.drop_succ_cons, List.drop_zero, Act.put, List.setIfInBounds_toArray, List.set_cons_zero, List.set_cons_succ, Nat.zero_add, Nat.reduceAdd]
          obtain ⟨e0, e1, e2, e3⟩ := (Hbx.out.ext (Ext.trans' HE.out hE)).cells
          go_simp
          exact ⟨Below.refl _ _, rfl⟩
        case ras1 =>
          intro v W hE hd; simp only [Region.wanted, ↓reduceIte]; (try simp [deps, waitsOn, Region.binds, knowing, isV, ownsV, anyV] at hd); simp only [putAll, List.take_succ_cons, List.take_zero, List.drop_succ_cons, List.drop_zero, Act.put, List.setIfInBounds_toArray, List.set_cons_zero, List.set_cons_succ, Nat.zero_add, Nat.reduceAdd]; go_simp; exact ⟨Below.refl _ _, rfl⟩
        case ras2 =>
          intro v W hE hd; simp only [Region.wanted, ↓reduceIte]; (try simp [deps, waitsOn, Region.binds, knowing, isV, ownsV, anyV] at hd); simp only [putAll, List.take_succ_cons, List.take_zero, List.drop_succ_cons, List.drop_zero, Act.put, List.setIfInBounds_toArray, List.set_cons_zero, List.set_cons_succ, Nat.zero_add, Nat.reduceAdd]
          obtain ⟨e0, e1⟩ := (Hcx.out.ext (Ext.trans' HE.out hE)).cells
          go_simp
          exact ⟨Below.refl _ _, rfl⟩
        case ras3 =>
          intro v W hE hd; simp only [Region.wanted, ↓reduceIte]; (try simp [deps, waitsOn, Region.binds, knowing, isV, ownsV, anyV] at hd); simp only [putAll, List.take_succ_cons, List.take_zero, List.drop_succ_cons, List.drop_zero, Act.put, List.setIfInBounds_toArray, List.set_cons_zero, List.set_cons_succ, Nat.zero_add, Nat.reduceAdd]; go_simp; exact ⟨Below.refl _ _, rfl⟩
        case ras4 =>
          intro v W hE hd; simp only [Region.wanted, ↓reduceIte]; (try simp [deps, waitsOn, Region.binds, knowing, isV, ownsV, anyV] at hd); simp only [putAll, List.take_succ_cons, List.take_zero, List.drop_succ_cons, List.drop_zero, Act.put, List.setIfInBounds_toArray, List.set_cons_zero, List.set_cons_succ, Nat.zero_add, Nat.reduceAdd]; go_simp; exact ⟨Below.refl _ _, rfl⟩
        case ras5 =>
          intro v W hE hd; simp only [Region.wanted, ↓reduceIte]; (try simp [deps, waitsOn, Region.binds, knowing, isV, ownsV, anyV] at hd); simp only [putAll, List.take_succ_cons, List.take_zero, List.drop_succ_cons, List.drop_zero, Act.put, List.setIfInBounds_toArray, List.set_cons_zero, List.set_cons_succ, Nat.zero_add, Nat.reduceAdd]
          have e1 := cell_later hE F0.out
          go_simp
          exact ⟨Below.refl _ _, rfl⟩
        case ras6 =>
          intro v W hE hd; simp only [Region.wanted, ↓reduceIte]; (try simp [deps, waitsOn, Region.binds, knowing, isV, ownsV, anyV] at hd); simp only [putAll, List.take_succ_cons, List.take_zero, List.drop_succ_cons, List.drop_zero, Act.put, List.setIfInBounds_toArray, List.set_cons_zero, List.set_cons_succ, Nat.zero_add, Nat.reduceAdd]
          go_simp
          refine ((refHas_at (H1.out.grow (Ext.trans' HE.out hE)) x)).mono ?_
          rintro z w' ⟨rfl, hE2⟩
          have HE2 := hid hE2
          clear hE2
          go_simp
          exact ⟨HE2.out, rfl⟩
        case ras7 =>
          intro v W hE hd; simp only [Region.wanted, ↓reduceIte]; (try simp [deps, waitsOn, Region.binds, knowing, isV, ownsV, anyV] at hd); simp only [putAll, List.take_succ_cons, List.take_zero, List.drop_succ_cons, List.drop_zero, Act.put, List.setIfInBounds_toArray, List.set_cons_zero, List.set_cons_succ, Nat.zero_add, Nat.reduceAdd]; go_simp; exact ⟨Below.refl _ _, rfl⟩
      · rintro v W6 hE ⟨-, -, -, -, -, -, -, e7, -⟩
        have e7 := (show v 7 = _ from e7)
        simp only [putAll, List.take_succ_cons, List.take_zero, List.drop_succ_cons, List.drop_zero, Act.put, List.setIfInBounds_toArray, List.set_cons_zero, List.set_cons_succ, Nat.zero_add, Nat.reduceAdd]
        rw [e7]
        clear e7
        cases hp : hasT e.tags x
        · have hr := hid (show clauseB e c = false by
            rw [Hc.out, show (c.tags.any fun s => !hasT e.tags s) = true from List.any_eq_true.2 ⟨x, Hm.out, by rw [hp]; rfl⟩]; rfl)
          go_wp2
          go_ret
          exact ⟨by rw [hr.out]; rfl, Ext.trans' HEE.out (Ext.trans' HE.out hE)⟩
        · have hn2 := hid (Hk.out hp)
          have HE2 := hid (Ext.trans' HE.out hE)
          clear hE
          go_wp2_with fail
          go_roundw
          case rel => exact ⟨k + 1, by omega, by go_num, HE2, hn2⟩
          case measure => simp [intOf]; omega
    · obtain rfl : k = n := by omega
      have hlt' : ¬ ((k : Int) < (k : Int)) := by omega
      have Hc2 := hid (show clauseB e c = (decide (c.types.length = 0) || c.types.any (e.ty == ·)) by
        have : (c.tags.any fun s => !hasT e.tags s) = false := by
          rw [List.any_eq_false]
          intro x hx
          obtain ⟨j, hj, rfl⟩ := List.getElem_of_mem hx
          rw [HN.out j (by have := hn.out; omega) hj]; decide
        rw [Hc.out, this]; rfl)
      have HEo := HE
      clear HE
      go_wp2_with fail
      clear c0
      go_loopw [7] (fun i wr2 => ∃ k2 : Nat, k2 ≤ m ∧ i = .int .i64 (k2 : Int) ∧ Hid (Ext w1 wr2) ∧ Hid (∀ j (hj : j < k2) (h : j < c.types.length), (e.ty == c.types[j]) = false)) (fun i _ => m - (intOf i).toNat)
      case atStart => exact ⟨0, by omega, rfl, HEo, fun j hj => by omega⟩
      case round =>
        clear HN
        obtain ⟨k2, hk2, rfl, HE, HN⟩ := hrel
        obtain ⟨-, c1⟩ := (Hcx.out.ext HE.out).cells
        by_cases hlt2 : k2 < m
        · have hkx : k2 < c.types.length := by have := hm.out; omega
          have hlt2' : (k2 : Int) < (m : Int) := by omega
          have hk00 : ¬ ((k2 : Int) < 0) := by omega
          have hk0 : (0 : Int) ≤ (k2 : Int) := by omega
          obtain ⟨bb, o, rfl, -, f0, -⟩ := txt_at (HU.out.grow HE.out) k2 hkx
          have F0 := hid f0
          cases hp : (e.ty == c.types[k2])
          · have hn2 := hid (prefix_next (p := (e.ty == ·)) HN.out hkx hp)
            have hpy : (c.types[k2] == e.ty) = false := by rw [← hp]; exact Bool.eq_iff_iff.2 (by simp only [beq_iff_eq]; exact eq_comm)
            generalize c.types[k2] = x at F0 hpy
            clear hp f0
            go_wp2_with fail
            clear c1
            apply wp_drawn [isV _, isV _, isV _, isV _, isV _, isV _, isV _, isV _] (by kernel_rfl)
            · kernel_rfl
            · refine ⟨?rbs0, ?rbs1, ?rbs2, ?rbs3, ?rbs4, ?rbs5, ?rbs6, ?rbs7, trivial⟩
              case rbs0 =>
                intro v W hE hd; simp only [Region.wanted, ↓reduceIte]; (try simp [deps, waitsOn, Region.binds, knowing, isV, ownsV, anyV] at hd); simp only [putAll, List.take_succ_cons, List.take_zero, List.drop_succ_cons, List.drop_zero, Act.put, List.setIfInBounds_toArray, List.set_cons_zero, List.set_cons_succ, Nat.zero_add, Nat.reduceAdd]; go_simp; exact ⟨Below.refl _ _, rfl⟩
              case rbs1 =>
                intro v W hE hd; simp only [Region.wanted, ↓reduceIte]; (try simp [deps, waitsOn, Region.binds, knowing, isV, ownsV, anyV] at hd); simp only [putAll, List.take_succ_cons, List.take_zero, List.drop_succ_cons, List.drop_zero, Act.put, List.setIfInBounds_toArray, List.set_cons_zero, List.set_cons_succ, Nat.zero_add, Nat.reduceAdd]
                obtain ⟨e0, e1⟩ := (Hcx.out.ext (Ext.trans' HE.out hE)).cells
                go_simp
                exact ⟨Below.refl _ _, rfl⟩
              case rbs2 =>
                intro v W hE hd; simp only [Region.wanted, ↓reduceIte]; (try simp [deps, waitsOn, Region.binds, knowing, isV, ownsV, anyV] at hd); simp only [putAll, List.take_succ_cons, List.take_zero, List.drop_succ_cons, List.drop_zero, Act.put, List.setIfInBounds_toArray, List.set_cons_zero, List.set_cons_succ, Nat.zero_add, Nat.reduceAdd]; go_simp; exact ⟨Below.refl _ _, rfl⟩
              case rbs3 =>
                intro v W hE hd; simp only [Region.wanted, ↓reduceIte]; (try simp [deps, waitsOn, Region.binds, knowing, isV, ownsV, anyV] at hd); simp only [putAll, List.take_succ_cons, List.take_zero, List.drop_succ_cons, List.drop_zero, Act.put, List.setIfInBounds_toArray, List.set_cons_zero, List.set_cons_succ, Nat.zero_add, Nat.reduceAdd]; go_simp; exact ⟨Below.refl _ _, rfl⟩
              case rbs4 =>
                intro v W hE hd; simp only [Region.wanted, ↓reduceIte]; (try simp [deps, waitsOn, Region.binds, knowing, isV, ownsV, anyV] at hd); simp only [putAll, List.take_succ_cons, List.take_zero, List.drop_succ_cons, List.drop_zero, Act.put, List.setIfInBounds_toArray, List.set_cons_zero, List.set_cons_succ, Nat.zero_add, Nat.reduceAdd]
                have e1 := cell_later hE F0.out
                go_simp
                exact ⟨Below.refl _ _, rfl⟩
              case rbs5 =>
                intro v W hE hd; simp only [Region.wanted, ↓reduceIte]; (try simp [deps, waitsOn, Region.binds, knowing, isV, ownsV, anyV] at hd); simp only [putAll, List.take_succ_cons, List.take_zero, List.drop_succ_cons, List.drop_zero, Act.put, List.setIfInBounds_toArray, List.set_cons_zero, List.set_cons_succ, Nat.zero_add, Nat.reduceAdd]; go_simp; exact ⟨Below.refl _ _, rfl⟩
              case rbs6 =>
                intro v W hE hd; simp only [Region.wanted, ↓reduceIte]; (try simp [deps, waitsOn, Region.binds, knowing, isV, ownsV, anyV] at hd); simp only [putAll, List.take_succ_cons, List.take_zero, List.drop_succ_cons, List.drop_zero, Act.put, List.setIfInBounds_toArray, List.set_cons_zero, List.set_cons_succ, Nat.zero_add, Nat.reduceAdd]
                obtain ⟨e0, e1, e2, e3⟩ := (Hbx.out.ext (Ext.trans' HE.out hE)).cells
                go_simp
                exact ⟨Below.refl _ _, rfl⟩
              case rbs7 =>
                intro v W hE hd; simp only [Region.wanted, ↓reduceIte]; (try simp [deps, waitsOn, Region.binds, knowing, isV, ownsV, anyV] at hd); simp only [putAll, List.take_succ_cons, List.take_zero, List.drop_succ_cons, List.drop_zero, Act.put, List.setIfInBounds_toArray, List.set_cons_zero, List.set_cons_succ, Nat.zero_add, Nat.reduceAdd]; go_simp; exact ⟨Below.refl _ _, rfl⟩
            · rintro v W6 hE ⟨-, -, -, -, -, -, -, e7, -⟩
              have e7 := (show v 7 = _ from e7)
              simp only [putAll, List.take_succ_cons, List.take_zero, List.drop_succ_cons, List.drop_zero, Act.put, List.setIfInBounds_toArray, List.set_cons_zero, List.set_cons_succ, Nat.zero_add, Nat.reduceAdd]
              rw [e7]
              clear e7
              have HE2 := hid (Ext.trans' HE.out hE)
              clear hE
              go_wp2_with fail
              go_roundw
              case rel => exact ⟨k2 + 1, by omega, by go_num, HE2, hn2⟩
              case measure => simp [intOf]; omega
          · have hr := hid (show clauseB e c = true by
              rw [Hc2.out, show c.types.any (e.ty == ·) = true from List.any_eq_true.2 ⟨_, List.getElem_mem hkx, hp⟩, Bool.or_true])
            have hpy : (c.types[k2] == e.ty) = true := by rw [← hp]; exact Bool.eq_iff_iff.2 (by simp only [beq_iff_eq]; exact eq_comm)
            generalize c.types[k2] = x at F0 hpy
            clear hp f0
            go_wp2_with fail
            clear c1
            apply wp_drawn [isV _, isV _, isV _, isV _, isV _, isV _, isV _, isV _] (by kernel_rfl)
            · kernel_rfl
            · refine ⟨?rcs0, ?rcs1, ?rcs2, ?rcs3, ?rcs4, ?rcs5, ?rcs6, ?rcs7, trivial⟩
              case rcs0 =>
                intro v W hE hd; simp only [Region.wanted, ↓reduceIte]; (try simp [deps, waitsOn, Region.binds, knowing, isV, ownsV, anyV] at hd); simp only [putAll, List.take_succ_cons, List.take_zero, List.drop_succ_cons, List.drop_zero, Act.put, List.setIfInBounds_toArray, List.set_cons_zero, List.set_cons_succ, Nat.zero_add, Nat.reduceAdd]; go_simp; exact ⟨Below.refl _ _, rfl⟩
              case rcs1 =>
                intro v W hE hd; simp only [Region.wanted, ↓reduceIte]; (try simp [deps, waitsOn, Region.binds, knowing, isV, ownsV, anyV] at hd); simp only [putAll, List.take_succ_cons, List.take_zero, List.drop_succ_cons, List.drop_zero, Act.put, List.setIfInBounds_toArray, List.set_cons_zero, List.set_cons_succ, Nat.zero_add, Nat.reduceAdd]
                obtain ⟨e0, e1⟩ := (Hcx.out.ext (Ext.trans' HE.out hE)).cells
                go_simp
                exact ⟨Below.refl _ _, rfl⟩
              case rcs2 =>
                intro v W hE hd; simp only [Region.wanted, ↓reduceIte]; (try simp [deps, waitsOn, Region.binds, knowing, isV, ownsV, anyV] at hd); simp only [putAll, List.take_succ_cons, List.take_zero, List.drop_succ_cons, List.drop_zero, Act.put, List.setIfInBounds_toArray, List.set_cons_zero, List.set_cons_succ, Nat.zero_add, Nat.reduceAdd]; go_simp; exact ⟨Below.refl _ _, rfl⟩
              case rcs3 =>
                intro v W hE hd; simp only [Region.wanted, ↓reduceIte]; (try simp [deps, waitsOn, Region.binds, knowing, isV, ownsV, anyV] at hd); simp only [putAll, List.take_succ_cons, List.take_zero, List.drop_succ_cons, List.drop_zero, Act.put, List.setIfInBounds_toArray, List.set_cons_zero, List.set_cons_succ, Nat.zero_add, Nat.reduceAdd]; go_simp; exact ⟨Below.refl _ _, rfl⟩
              case rcs4 =>
                intro v W hE hd; simp only [Region.wanted, ↓reduceIte]; (try simp [deps, waitsOn, Region.binds, knowing, isV, ownsV, anyV] at hd); simp only [putAll, List.take_succ_cons, List.take_zero, List.drop_succ_cons, List.drop_zero, Act.put, List.setIfInBounds_toArray, List.set_cons_zero, List.set_cons_succ, Nat.zero_add, Nat.reduceAdd]
                have e1 := cell_later hE F0.out
                go_simp
                exact ⟨Below.refl _ _, rfl⟩
              case rcs5 =>
                intro v W hE hd; simp only [Region.wanted, ↓reduceIte]; (try simp [deps, waitsOn, Region.binds, knowing, isV, ownsV, anyV] at hd); simp only [putAll, List.take_succ_cons, List.take_zero, List.drop_succ_cons, List.drop_zero, Act.put, List.setIfInBounds_toArray, List.set_cons_zero, List.set_cons_succ, Nat.zero_add, Nat.reduceAdd]; go_simp; exact ⟨Below.refl _ _, rfl⟩
              case rcs6 =>
                intro v W hE hd; simp only [Region.wanted, ↓reduceIte]; (try simp [deps, waitsOn, Region.binds, knowing, isV, ownsV, anyV] at hd); simp only [putAll, List.take_succ_cons, List.take_zero, List.drop_succ_cons, List.drop_zero, Act.put, List.setIfInBounds_toArray, List.set_cons_zero, List.set_cons_succ, Nat.zero_add, Nat.reduceAdd]
                obtain ⟨e0, e1, e2, e3⟩ := (Hbx.out.ext (Ext.trans' HE.out hE)).cells
                go_simp
                exact ⟨Below.refl _ _, rfl⟩
              case rcs7 =>
                intro v W hE hd; simp only [Region.wanted, ↓reduceIte]; (try simp [deps, waitsOn, Region.binds, knowing, isV, ownsV, anyV] at hd); simp only [putAll, List.take_succ_cons, List.take_zero, List.drop_succ_cons, List.drop_zero, Act.put, List.setIfInBounds_toArray, List.set_cons_zero, List.set_cons_succ, Nat.zero_add, Nat.reduceAdd]; go_simp; exact ⟨Below.refl _ _, rfl⟩
            · rintro v W6 hE ⟨-, -, -, -, -, -, -, e7, -⟩
              have e7 := (show v 7 = _ from e7)
              simp only [putAll, List.take_succ_cons, List.take_zero, List.drop_succ_cons, List.drop_zero, Act.put, List.setIfInBounds_toArray, List.set_cons_zero, List.set_cons_succ, Nat.zero_add, Nat.reduceAdd]
              rw [e7]
              clear e7
              go_wp2
              go_ret
              exact ⟨by rw [hr.out]; rfl, Ext.trans' HEE.out (Ext.trans' HE.out hE)⟩
        · obtain rfl : k2 = m := by omega
          have hlt2' : ¬ ((k2 : Int) < (k2 : Int)) := by omega
          have hr := hid (show clauseB e c = decide (k2 = 0) by
            have : c.types.any (e.ty == ·) = false := by
              rw [List.any_eq_false]
              intro x hx
              obtain ⟨j, hj, rfl⟩ := List.getElem_of_mem hx
              rw [HN.out j (by have := hm.out; omega) hj]; decide
            rw [Hc2.out, this, Bool.or_false, ← hm.out])
          go_wp2
          go_ret
          exact ⟨by rw [hr.out]; show Ending.returned (Value.bool _) = _; congr 2; rw [Bool.eq_iff_iff, beq_iff_eq, decide_eq_true_eq]; omega, Ext.trans' HEE.out HE.out⟩
set_option maxRecDepth 100000 in
set_option maxHeartbeats 4000000 in
theorem refMatch_at {w : World} {Aq : Option Addr} {n cq : Nat} {q : List ClV} (hq : SlR RCl w (· < w.heap.size) Aq n cq q) {A B : Option Addr} {n' c' m' d' : Nat} {e : EvV} (h : EvIn w A n' c' B m' d' e) :
    Calls Tryz.prog 27 #[.agg #[.slice Aq n cq], evVal A n' c' B m' d' e] w fun x w' => x = .returned (.bool (matchQ q e)) ∧ Ext w w' := by
  have hn := hid hq.1
  have hna := hq.2.1
  have hac := hq.2.2.1
  have hv := hid (show evVal A n' c' B m' d' e = .agg #[.string (str e.st), .string (str e.ty), .slice A n' c', .slice B m' d'] from rfl)
  rw [hv.out]
  have HEc := hid (ext_alloc w (.cells #[.slice Aq n cq] 24))
  have b0 : (w.alloc (.cells #[.slice Aq n cq] 24)).cell? ⟨w.heap.size, 0, none⟩ = some (.slice Aq n cq) := by rw [cell_of_row _ _ _ _ _ _ (heap_alloc_last w _)]; rfl
  have hsz : (w.alloc (.cells #[.slice Aq n cq] 24)).heap.size = w.heap.size + 1 := by simp
  have HE0 := hid (ext_alloc (w.alloc (.cells #[.slice Aq n cq] 24)) (.cells #[.string (str e.st), .string (str e.ty), .slice A n' c', .slice B m' d'] 45))
  have Hbx := hid (show EvBox (w.heap.size + 1) A n' c' B m' d' e ((w.alloc (.cells #[.slice Aq n cq] 24)).alloc (.cells #[.string (str e.st), .string (str e.ty), .slice A n' c', .slice B m' d'] 45)) from by have := heap_alloc_last (w.alloc (.cells #[.slice Aq n cq] 24)) (.cells #[.string (str e.st), .string (str e.ty), .slice A n' c', .slice B m' d'] 45); rw [hsz] at this; exact this)
  have Hqx := hid (cell_later HE0.out b0)
  have HEE := hid (Ext.trans' HEc.out HE0.out)
  have H1 := hid (h.grow HEE.out)
  have HQ := hid (hq.grow HEE.out)
  clear b0 hq h
  go_enter Tryz.func27, Tryz.ntmps27
  go_wp2_with fail
  generalize (w.alloc (.cells #[.slice Aq n cq] 24)).alloc (.cells #[.string (str e.st), .string (str e.ty), .slice A n' c', .slice B m' d'] 45) = w1 at HEE Hbx Hqx H1 HQ HE0 ⊢
  clear HE0 HEc hsz
  go_loopw [5] (fun i wr => ∃ k : Nat, k ≤ n ∧ i = .int .i64 (k : Int) ∧ Hid (Ext w1 wr) ∧ Hid (∀ j (hj : j < k) (h : j < q.length), clauseB e q[j] = false)) (fun i _ => n - (intOf i).toNat)
  case atStart => exact ⟨0, by omega, rfl, Below.refl _ _, fun j hj => by omega⟩
  case round =>
    obtain ⟨k, hk, rfl, HE, HN⟩ := hrel
    have c0 := cell_later HE.out Hqx.out
    by_cases hlt : k < n
    · have hkx : k < q.length := by have := hn.out; omega
      have hlt' : (k : Int) < (n : Int) := by omega
      have hk00 : ¬ ((k : Int) < 0) := by omega
      have hk0 : (0 : Int) ≤ (k : Int) := by omega
      obtain ⟨bb, o, T, ta, U, ua, rfl, -, f0, f1, hT, hU⟩ := cl_at (HQ.out.grow HE.out) k hkx
      have HT := hid hT; have HU := hid hU; have F0 := hid f0; have F1 := hid f1
      have Hk := hid (prefix_next (p := clauseB e) HN.out hkx)
      have Hm := hid (show ∀ (hp : clauseB e q[k] = true), matchQ q e = true from fun hp => List.any_eq_true.2 ⟨_, List.getElem_mem hkx, hp⟩)
      clear hT hU f0 f1
      generalize q[k] = x at HT HU F0 F1 Hk Hm
      generalize x.tags.length = tl at HT F0
      generalize x.types.length = ul at HU F1
      go_wp2_with fail
      clear c0
      apply wp_drawn [isV _, isV _, isV _, isV _, isV _, isV _, isV _, isV _] (by kernel_rfl)
      · kernel_rfl
      · refine ⟨?ras0, ?ras1, ?ras2, ?ras3, ?ras4, ?ras5, ?ras6, ?ras7, trivial⟩
        case ras0 =>
          intro v W hE hd; simp only [Region.wanted, ↓reduceIte]; (try simp [deps, waitsOn, Region.binds, knowing, isV, ownsV, anyV] at hd); simp only [putAll, List.take_succ_cons, List.take_zero, List.drop_succ_cons, List.drop_zero, Act.put, List.setIfInBounds_toArray, List.set_cons_zero, List.set_cons_succ, Nat.zero_add, Nat.reduceAdd]; go_simp; exact ⟨Below.refl _ _, rfl⟩
        case ras1 =>
          intro v W hE hd; simp only [Region.wanted, ↓reduceIte]; (try simp [deps, waitsOn, Region.binds, knowing, isV, ownsV, anyV] at hd); simp only [putAll, List.take_succ_cons, List.take_zero, List.drop_succ_cons, List.drop_zero, Act.put, List.setIfInBounds_toArray, List.set_cons_zero, List.set_cons_succ, Nat.zero_add, Nat.reduceAdd]
          have e1 := cell_later (Ext.trans' HE.out hE) Hqx.out
          go_simp
          exact ⟨Below.refl _ _, rfl⟩
        case ras2 =>
          intro v W hE hd; simp only [Region.wanted, ↓reduceIte]; (try simp [deps, waitsOn, Region.binds, knowing, isV, ownsV, anyV] at hd); simp only [putAll, List.take_succ_cons, List.take_zero, List.drop_succ_cons, List.drop_zero, Act.put, List.setIfInBounds_toArray, List.set_cons_zero, List.set_cons_succ, Nat.zero_add, Nat.reduceAdd]; go_simp; exact ⟨Below.refl _ _, rfl⟩
        case ras3 =>
          intro v W hE hd; simp only [Region.wanted, ↓reduceIte]; (try simp [deps, waitsOn, Region.binds, knowing, isV, ownsV, anyV] at hd); simp only [putAll, List.take_succ_cons, List.take_zero, List.drop_succ_cons, List.drop_zero, Act.put, List.setIfInBounds_toArray, List.set_cons_zero, List.set_cons_succ, Nat.zero_add, Nat.reduceAdd]; go_simp; exact ⟨Below.refl _ _, rfl⟩
        case ras4 =>
          intro v W hE hd; simp only [Region.wanted, ↓reduceIte]; (try simp [deps, waitsOn, Region.binds, knowing, isV, ownsV, anyV] at hd); simp only [putAll, List.take_succ_cons, List.take_zero, List.drop_succ_cons, List.drop_zero, Act.put, List.setIfInBounds_toArray, List.set_cons_zero, List.set_cons_succ, Nat.zero_add, Nat.reduceAdd]
          have e1 := cell_later hE F0.out
          have e2 := cell_later hE F1.out
          go_simp
          exact ⟨Below.refl _ _, rfl⟩
        case ras5 =>
          intro v W hE hd; simp only [Region.wanted, ↓reduceIte]; (try simp [deps, waitsOn, Region.binds, knowing, isV, ownsV, anyV] at hd); simp only [putAll, List.take_succ_cons, List.take_zero, List.drop_succ_cons, List.drop_zero, Act.put, List.setIfInBounds_toArray, List.set_cons_zero, List.set_cons_succ, Nat.zero_add, Nat.reduceAdd]
          obtain ⟨e0, e1, e2, e3⟩ := (Hbx.out.ext (Ext.trans' HE.out hE)).cells
          go_simp
          exact ⟨Below.refl _ _, rfl⟩
        case ras6 =>
          intro v W hE hd; simp only [Region.wanted, ↓reduceIte]; (try simp [deps, waitsOn, Region.binds, knowing, isV, ownsV, anyV] at hd); simp only [putAll, List.take_succ_cons, List.take_zero, List.drop_succ_cons, List.drop_zero, Act.put, List.setIfInBounds_toArray, List.set_cons_zero, List.set_cons_succ, Nat.zero_add, Nat.reduceAdd]
          go_simp
          have hcc := refClause_at (HT.out.grow hE) (HU.out.grow hE) (H1.out.grow (Ext.trans' HE.out hE))
          rw [hv.out] at hcc
          refine hcc.mono ?_
          rintro z w' ⟨rfl, hE2⟩
          have HE2 := hid hE2
          clear hE2 hcc
          go_simp
          exact ⟨HE2.out, rfl⟩
        case ras7 =>
          intro v W hE hd; simp only [Region.wanted, ↓reduceIte]; (try simp [deps, waitsOn, Region.binds, knowing, isV, ownsV, anyV] at hd); simp only [putAll, List.take_succ_cons, List.take_zero, List.drop_succ_cons, List.drop_zero, Act.put, List.setIfInBounds_toArray, List.set_cons_zero, List.set_cons_succ, Nat.zero_add, Nat.reduceAdd]; go_simp; exact ⟨Below.refl _ _, rfl⟩
      · rintro v W6 hE ⟨-, -, -, -, -, -, -, e7, -⟩
        have e7 := (show v 7 = _ from e7)
        simp only [putAll, List.take_succ_cons, List.take_zero, List.drop_succ_cons, List.drop_zero, Act.put, List.setIfInBounds_toArray, List.set_cons_zero, List.set_cons_succ, Nat.zero_add, Nat.reduceAdd]
        rw [e7]
        clear e7
        have HE2 := hid (Ext.trans' HE.out hE)
        clear hE
        cases hp : clauseB e x
        · have hn2 := hid (Hk.out hp)
          go_wp2_with fail
          go_roundw
          case rel => exact ⟨k + 1, by omega, by go_num, HE2, hn2⟩
          case measure => simp [intOf]; omega
        · have hr := hid (Hm.out hp)
          go_wp2
          go_ret
          exact ⟨by rw [hr.out]; rfl, Ext.trans' HEE.out HE2.out⟩
    · obtain rfl : k = n := by omega
      have hlt' : ¬ ((k : Int) < (k : Int)) := by omega
      have hr := hid (show matchQ q e = false by
        unfold matchQ
        rw [List.any_eq_false]
        intro x hx
        obtain ⟨j, hj, rfl⟩ := List.getElem_of_mem hx
        rw [HN.out j (by have := hn.out; omega) hj]; decide)
      go_wp2
      go_ret
      exact ⟨by rw [hr.out]; rfl, Ext.trans' HEE.out HE.out⟩
end Go.Proofs.YtpmmapcjohmniaaGreat
