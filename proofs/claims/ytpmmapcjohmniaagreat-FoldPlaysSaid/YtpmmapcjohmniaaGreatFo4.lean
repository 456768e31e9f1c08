/- What each kind does with an event. -/
import Derived.Test.YtpmmapcjohmniaaGreatFo3
namespace Go.Proofs.YtpmmapcjohmniaaGreat
open Go Go.RowKit
set_option linter.unusedSimpArgs false
set_option linter.unusedVariables false

theorem cell_below {w w' : World} {p : Addr} {v : Value} (h : Ext w w') (hc : w.cell? p = some v) : w'.cell? p = some v := (h.cell (World.block_lt_of_cell? w p hc)).trans hc
theorem str_append (a b : List UInt8) : str (a ++ b) = str a ++ str b := by
  apply ByteArray.ext
  simp [str, ByteArray.data_append]
/-- An event that lies outside S. -/
structure EvS (w : World) (S : Nat → Prop) (A : Option Addr) (n c : Nat) (B : Option Addr) (m d : Nat) (e : EvV) : Prop where
  st : Short e.st
  ty : Short e.ty
  tags : SlR Rep.txt w (Out S w) A n c e.tags
  fields : SlR RField w (Out S w) B m d e.fields
theorem EvS.is {w : World} {S : Nat → Prop} {A B : Option Addr} {n c m d : Nat} {e : EvV} (h : EvS w S A n c B m d e) : EvIn w A n c B m d e := ⟨h.st, h.ty, slR_out h.tags, slR_out h.fields⟩
theorem EvS.more {w w' : World} {S S' : Nat → Prop} {A B : Option Addr} {n c m d : Nat} {e : EvV} (h : EvS w S A n c B m d e) (hE : Ext w w') (hS : ∀ k, S' k → S k ∨ w.heap.size ≤ k) : EvS w' S' A n c B m d e := ⟨h.st, h.ty, slR_more h.tags hE hS, slR_more h.fields hE hS⟩
theorem EvS.ext {w w' : World} {S : Nat → Prop} {A B : Option Addr} {n c m d : Nat} {e : EvV} (h : EvS w S A n c B m d e) (hE : Ext w w') : EvS w' S A n c B m d e := h.more hE fun _ hk => .inl hk
theorem EvS.kept {w w' : World} {S : Nat → Prop} {A B : Option Addr} {n c m d a b : Nat} {e : EvV} (h : EvS w S A n c B m d e) (hk : Kept2 a b w w') (ha : S a) (hb : S b) : EvS w' S A n c B m d e := ⟨h.st, h.ty, slR_kept h.tags hk ha hb, slR_kept h.fields hk ha hb⟩
/-- What an event may be at most. -/
structure SmallE (e : EvV) : Prop where
  st : e.st.length ≤ 1000
  tags : ∀ t ∈ e.tags, t.length ≤ 1000
  many : e.tags.length ≤ 1000
  num : ∀ f ∈ e.fields, -1125899906842624 ≤ f.2 ∧ f.2 ≤ 1125899906842624
theorem valF_small {e : EvV} (h : SmallE e) (f : Str) : -1125899906842624 ≤ (valF e.fields f).getD 0 ∧ (valF e.fields f).getD 0 ≤ 1125899906842624 := by
  unfold valF
  cases hx : e.fields.find? (·.1 == f) with
  | none => exact ⟨by decide, by decide⟩
  | some x => exact h.num x (List.mem_of_find?_eq_some hx)
def FitB (B : Int) (D : Ents) : Prop := ∀ p ∈ D, -B ≤ p.2 ∧ p.2 ≤ B
theorem atI_fit {B : Int} {D : Ents} (h : FitB B D) (hB : 0 ≤ B) (k : Str) : -B ≤ atI D k ∧ atI D k ≤ B := by
  unfold atI
  cases hx : D.find? (·.1 == k) with
  | none => exact ⟨show -B ≤ (0 : Int) by omega, show (0 : Int) ≤ B from hB⟩
  | some x => exact h x (List.mem_of_find?_eq_some hx)
theorem mem_insI (x p : List UInt8 × Int) : ∀ D : Ents, p ∈ insI x D → p = x ∨ p ∈ D
  | [], h => by unfold insI at h; simp at h; exact .inl h
  | y :: r, h => by
    unfold insI at h
    split at h
    · rcases List.mem_cons.1 h with e | h
      · exact .inl e
      · exact .inr h
    · rcases List.mem_cons.1 h with e | h
      · exact .inr (by simp [e])
      · rcases mem_insI x p r h with e | h
        · exact .inl e
        · exact .inr (by simp [h])
theorem mem_setF {d : DefV} {k : Str} {n : Int} {D : Ents} {p : List UInt8 × Int} (h : p ∈ setF d k n D) : p = (k, n) ∨ p ∈ D := by
  unfold setF putI delI at h
  split at h
  · exact .inr (List.mem_filter.1 h).1
  · rcases mem_insI _ _ _ h with h | h
    · exact .inl h
    · exact .inr (List.mem_filter.1 h).1
theorem FitB.set {B : Int} {D : Ents} (h : FitB B D) {d : DefV} {k : Str} {n : Int} (hn : -B ≤ n ∧ n ≤ B) : FitB B (setF d k n D) := fun p hp => by
  rcases mem_setF hp with e | hp
  · rw [e]; exact hn
  · exact h p hp
theorem FitB.le {B B' : Int} {D : Ents} (h : FitB B D) (hb : B ≤ B') : FitB B' D := fun p hp => by have := h p hp; omega
theorem length_setF (d : DefV) (k : Str) (n : Int) (D : Ents) : (setF d k n D).length ≤ D.length + 1 := by
  unfold setF
  split
  · have := length_delI k D; omega
  · exact length_putI k n D
def keyF (t st : Str) : Str := t ++ [32] ++ st
def countF (d : DefV) (k : Str) (D : Ents) : Ents := setF d k (atI D k + 1) D
def membersF (d : DefV) (st : Str) (ts : List Str) (D : Ents) : Ents := ts.foldl (fun D t => countF d (keyF t st) D) D
set_option maxRecDepth 100000 in
theorem countStep_at {w : World} {S : Nat → Prop} {s m : Nat} {df : DefV} {q : List ClV} {D : Ents} (h : StIs w S s m (kdVal df) q D) {A B : Option Addr} {n c k d : Nat} {e : EvV} (hD : D.length < 1000000) (hf : FitB 2305843009213693952 D) :
    Calls Tryz.prog 126 #[.agg #[], .pointer (some ⟨s, 0, none⟩), evVal A n c B k d e] w fun x w' => x = .returned (.int .i64 0) ∧ StIs w' S s m (kdVal df) q (countF df [] D) ∧ Kept2 s m w w' := by
  unfold evVal
  go_enter Tryz.func126, Tryz.ntmps126
  have HEa := hid (ext_alloc w (.cells #[] 88))
  have HEb := hid (Ext.trans' HEa.out (ext_alloc (w.alloc (.cells #[] 88)) (.cells #[.string (str e.st), .string (str e.ty), .slice A n c, .slice B k d] 45)))
  have HSt := hid (h.ext HEb.out)
  have Hbx := hid (show EvBox (w.heap.size + 1) A n c B k d e ((w.alloc (.cells #[] 88)).alloc (.cells #[.string (str e.st), .string (str e.ty), .slice A n c, .slice B k d] 45)) from by
    have := heap_alloc_last (w.alloc (.cells #[] 88)) (.cells #[.string (str e.st), .string (str e.ty), .slice A n c, .slice B k d] 45)
    simpa [EvBox] using this)
  have hb := atI_fit hf (by decide) []
  obtain ⟨-, -, -, -, c2, -⟩ := HSt.out.cells
  have hl := (HSt.out.map.look [] (by decide)).1
  have hl' := show (Instr.lookup 63 (.map (some m)) (.string { data := #[] }) false).run Tryz.prog _ = _ from hl
  have hov : -9223372036854775808 ≤ atI D [] + 1 ∧ atI D [] + 1 ≤ 9223372036854775807 := by omega
  have hcc := set_at (d := df) HSt.out [] (atI D [] + 1) hov (Nat.zero_le _) hD
  have hst : str [] = { data := #[] } := rfl
  rw [hst] at hcc
  have hr := hid (show countF df [] D = setF df [] (atI D [] + 1) D from rfl)
  generalize atI D [] = x at *
  clear h hf hl
  go_wp2_with fail
  refine hcc.mono ?_
  clear hcc
  rintro e w' ⟨rfl, hS, hK⟩
  have HS := hid hS; have HK := hid ((Kept2.of_ext HEb.out).trans hK)
  clear hS hK
  go_wp2
  go_ret
  exact ⟨rfl, by rw [hr.out]; exact HS.out, HK.out⟩
def sumF (d : DefV) (e : EvV) (D : Ents) : Int × Ents :=
  if fitsN (atI D [] + (valF e.fields d.field).getD 0) = false ∧ (valF e.fields d.field).getD 0 ≠ 0 then (4, D) else (0, setF d [] (atI D [] + (valF e.fields d.field).getD 0) D)
set_option maxRecDepth 100000 in
set_option maxHeartbeats 1000000 in
theorem sumStep_at {w : World} {S : Nat → Prop} {s m : Nat} {df : DefV} {q : List ClV} {D : Ents} (h : StIs w S s m (kdVal df) q D) {A B : Option Addr} {n c k d : Nat} {e : EvV} (hev : EvS w S A n c B k d e) (hsm : SmallE e) (hD : D.length < 1000000) (hf : FitB 2305843009213693952 D) :
    Calls Tryz.prog 120 #[.agg #[.string (str df.field)], .pointer (some ⟨s, 0, none⟩), evVal A n c B k d e] w fun x w' => x = .returned (.int .i64 (sumF df e D).1) ∧ StIs w' S s m (kdVal df) q (sumF df e D).2 ∧ Kept2 s m w w' := by
  unfold evVal
  go_enter Tryz.func120, Tryz.ntmps120
  have HEa := hid (ext_alloc w (.cells #[.string (str df.field)] 84))
  have HEb := hid (Ext.trans' HEa.out (ext_alloc (w.alloc (.cells #[.string (str df.field)] 84)) (.cells #[.string (str e.st), .string (str e.ty), .slice A n c, .slice B k d] 45)))
  have HSt := hid (h.ext HEb.out)
  have Hbx := hid (show EvBox (w.heap.size + 1) A n c B k d e ((w.alloc (.cells #[.string (str df.field)] 84)).alloc (.cells #[.string (str e.st), .string (str e.ty), .slice A n c, .slice B k d] 45)) from by
    have := heap_alloc_last (w.alloc (.cells #[.string (str df.field)] 84)) (.cells #[.string (str e.st), .string (str e.ty), .slice A n c, .slice B k d] 45)
    simpa [EvBox] using this)
  have hb := atI_fit hf (by decide) []
  have hv := valF_small hsm df.field
  have Hev := hid (hev.ext HEb.out)
  obtain ⟨b0, b1, b2, b3⟩ := Hbx.out.cells
  have f0 : ((w.alloc (.cells #[.string (str df.field)] 84)).alloc (.cells #[.string (str e.st), .string (str e.ty), .slice A n c, .slice B k d] 45)).cell? ⟨w.heap.size, 0, none⟩ = some (.string (str df.field)) :=
    cell_below (ext_alloc _ _) (by rw [cell_of_row _ _ _ _ _ _ (heap_alloc_last w _)]; rfl)
  have hcc := value_at Hev.out.is df.field
  have hdf := hid (show sumF df e D = if fitsN (atI D [] + (valF e.fields df.field).getD 0) = false ∧ (valF e.fields df.field).getD 0 ≠ 0 then (4, D) else (0, setF df [] (atI D [] + (valF e.fields df.field).getD 0) D) from rfl)
  unfold evVal at hcc
  clear h hf hev
  generalize (valF e.fields df.field).isSome = vb at *
  generalize (valF e.fields df.field).getD 0 = v at *
  have hov : -9223372036854775808 ≤ atI D [] + v ∧ atI D [] + v ≤ 9223372036854775807 := by omega
  have Hov := hid hov
  go_wp2_with fail
  refine hcc.mono ?_
  clear hcc b0 b1 b2 b3 f0
  rintro x w1 ⟨rfl, hE⟩
  have HS1 := hid (HSt.out.ext hE)
  have HK1 := hid (Kept2.of_ext (d := s) (m := m) (Ext.trans' HEb.out hE))
  clear hE
  obtain ⟨-, -, -, -, c2, -⟩ := HS1.out.cells
  have hl := (HS1.out.map.look [] (by decide)).1
  have hl' := show (Instr.lookup 63 (.map (some m)) (.string { data := #[] }) false).run Tryz.prog _ = _ from hl
  clear hl
  obtain ⟨x, hx⟩ : ∃ x, x = atI D [] := ⟨_, rfl⟩
  rw [← hx] at hl' hb hov hdf
  have Hx := hid hx
  clear hx
  go_wp2_with fail
  refine (fits_at (x + v) w1).mono ?_
  rintro y w2 ⟨rfl, rfl⟩
  have hst : str [] = { data := #[] } := rfl
  have hcc := set_at (d := df) HS1.out [] (x + v) hov (Nat.zero_le _) hD
  rw [hst] at hcc
  generalize x + v = y at *
  by_cases hfit : fitsN y = false ∧ v ≠ 0
  · have hr := hid (show sumF df e D = (4, D) by rw [hdf.out, if_pos hfit])
    obtain ⟨hf1, hf2⟩ := hfit
    rw [hf1]
    clear hcc
    go_wp2
    go_ret
    exact ⟨by rw [hr.out]; rfl, by rw [hr.out]; exact HS1.out, HK1.out⟩
  · have hr := hid (show sumF df e D = (0, setF df [] y D) by rw [hdf.out, if_neg hfit])
    have hcont : ∀ (x' : Ending) (w' : World), (x' = .returned (.tuple #[]) ∧ StIs w' S s m (kdVal df) q (setF df [] y D) ∧ Kept2 s m w2 w') → Hid (StIs w' S s m (kdVal df) q (setF df [] y D)) ∧ Hid (Kept2 s m w w') := fun x' w' h => ⟨hid h.2.1, hid (HK1.out.trans h.2.2)⟩
    cases hfb : fitsN y
    · have hv0 : v = 0 := Classical.byContradiction fun h0 => hfit ⟨hfb, h0⟩
      subst hv0
      clear hfit
      go_wp2_with fail
      refine hcc.mono ?_
      clear hcc
      rintro e' w' hh
      obtain ⟨HS, HK⟩ := hcont _ _ hh
      obtain ⟨rfl, -, -⟩ := hh
      go_wp2
      go_ret
      exact ⟨by rw [hr.out]; rfl, by rw [hr.out]; exact HS.out, HK.out⟩
    · clear hfit
      go_wp2_with fail
      refine hcc.mono ?_
      clear hcc
      rintro e' w' hh
      obtain ⟨HS, HK⟩ := hcont _ _ hh
      obtain ⟨rfl, -, -⟩ := hh
      go_wp2
      go_ret
      exact ⟨by rw [hr.out]; rfl, by rw [hr.out]; exact HS.out, HK.out⟩
def latestF (d : DefV) (e : EvV) (D : Ents) : Ents := match valF e.fields d.field with
  | some v => setF d e.st v D
  | none => D
set_option maxRecDepth 100000 in
set_option maxHeartbeats 1000000 in
theorem latestStep_at {w : World} {S : Nat → Prop} {s m : Nat} {df : DefV} {q : List ClV} {D : Ents} (h : StIs w S s m (kdVal df) q D) {A B : Option Addr} {n c k d : Nat} {e : EvV} (hev : EvS w S A n c B k d e) (hsm : SmallE e) (hD : D.length < 1000000) :
    Calls Tryz.prog 124 #[.agg #[.string (str df.field)], .pointer (some ⟨s, 0, none⟩), evVal A n c B k d e] w fun x w' => x = .returned (.int .i64 0) ∧ StIs w' S s m (kdVal df) q (latestF df e D) ∧ Kept2 s m w w' := by
  unfold evVal
  go_enter Tryz.func124, Tryz.ntmps124
  have HEa := hid (ext_alloc w (.cells #[.string (str df.field)] 85))
  have HEb := hid (Ext.trans' HEa.out (ext_alloc (w.alloc (.cells #[.string (str df.field)] 85)) (.cells #[.string (str e.st), .string (str e.ty), .slice A n c, .slice B k d] 45)))
  have HSt := hid (h.ext HEb.out)
  have Hbx := hid (show EvBox (w.heap.size + 1) A n c B k d e ((w.alloc (.cells #[.string (str df.field)] 85)).alloc (.cells #[.string (str e.st), .string (str e.ty), .slice A n c, .slice B k d] 45)) from by
    have := heap_alloc_last (w.alloc (.cells #[.string (str df.field)] 85)) (.cells #[.string (str e.st), .string (str e.ty), .slice A n c, .slice B k d] 45)
    simpa [EvBox] using this)
  have hv := valF_small hsm df.field
  have Hev := hid (hev.ext HEb.out)
  obtain ⟨b0, b1, b2, b3⟩ := Hbx.out.cells
  have f0 : ((w.alloc (.cells #[.string (str df.field)] 85)).alloc (.cells #[.string (str e.st), .string (str e.ty), .slice A n c, .slice B k d] 45)).cell? ⟨w.heap.size, 0, none⟩ = some (.string (str df.field)) :=
    cell_below (ext_alloc _ _) (by rw [cell_of_row _ _ _ _ _ _ (heap_alloc_last w _)]; rfl)
  have hcc := value_at Hev.out.is df.field
  have hss := hid hev.st
  have hdf := hid (show latestF df e D = if (valF e.fields df.field).isSome = true then setF df e.st ((valF e.fields df.field).getD 0) D else D by
    unfold latestF; cases valF e.fields df.field <;> rfl)
  unfold evVal at hcc
  clear h hev
  generalize (valF e.fields df.field).isSome = vb at *
  generalize (valF e.fields df.field).getD 0 = v at *
  go_wp2_with fail
  refine hcc.mono ?_
  clear hcc b0 b1 b2 b3 f0
  rintro x w1 ⟨rfl, hE⟩
  have HS1 := hid (HSt.out.ext hE)
  have HK1 := hid (Kept2.of_ext (d := s) (m := m) (Ext.trans' HEb.out hE))
  obtain ⟨b0, -, -, -⟩ := (Hbx.out.ext hE).cells
  clear hE
  cases vb
  · have hr := hid (show latestF df e D = D from hdf.out)
    go_wp2
    go_ret
    exact ⟨rfl, by rw [hr.out]; exact HS1.out, HK1.out⟩
  · have hr := hid (show latestF df e D = setF df e.st v D from hdf.out)
    have hcc := set_at (d := df) HS1.out e.st v (by omega) hss.out hD
    go_wp2_with fail
    refine hcc.mono ?_
    clear hcc
    rintro e' w' ⟨rfl, hS, hK⟩
    have HS := hid hS; have HK := hid (HK1.out.trans hK)
    clear hS hK
    go_wp2
    go_ret
    exact ⟨rfl, by rw [hr.out]; exact HS.out, HK.out⟩
theorem membersF_snoc (d : DefV) (st t : Str) (ts : List Str) (D : Ents) : membersF d st (ts ++ [t]) D = countF d (keyF t st) (membersF d st ts D) := by
  unfold membersF; rw [List.foldl_append]; rfl
theorem countF_fit {d : DefV} {k : Str} {D : Ents} {B : Int} (h : FitB B D) (hB : 0 ≤ B) : FitB (B + 1) (countF d k D) := by
  have := atI_fit h hB k
  exact (h.le (by omega)).set (by omega)
theorem membersF_fit {d : DefV} {st : Str} : ∀ (ts : List Str) {D : Ents} {B : Int}, FitB B D → 0 ≤ B → FitB (B + ts.length) (membersF d st ts D)
  | [], D, B, h, hB => h.le (by simp)
  | t :: ts, D, B, h, hB => by
    have := membersF_fit (d := d) (st := st) ts (countF_fit (d := d) (k := keyF t st) h hB) (by omega)
    exact this.le (by simp; omega)
theorem length_membersF {d : DefV} {st : Str} : ∀ (ts : List Str) (D : Ents), (membersF d st ts D).length ≤ D.length + ts.length
  | [], D => Nat.le_refl _
  | t :: ts, D => by
    have := length_membersF (d := d) (st := st) ts (countF d (keyF t st) D)
    have h2 := length_setF d (keyF t st) (atI D (keyF t st) + 1) D
    have e : membersF d st (t :: ts) D = membersF d st ts (countF d (keyF t st) D) := rfl
    rw [e]
    simp only [List.length_cons]
    have : (countF d (keyF t st) D).length ≤ D.length + 1 := h2
    omega
set_option maxRecDepth 100000 in
set_option maxHeartbeats 1000000 in
theorem membersStep_at {w : World} {S : Nat → Prop} {s m : Nat} {df : DefV} {q : List ClV} {D : Ents} (h : StIs w S s m (kdVal df) q D) {A B : Option Addr} {n c k d : Nat} {e : EvV} (hev : EvS w S A n c B k d e) (hsm : SmallE e) (hD : D.length + 1000 < 1000000) (hf : FitB 2305843009213693952 D) :
    Calls Tryz.prog 125 #[.agg #[], .pointer (some ⟨s, 0, none⟩), evVal A n c B k d e] w fun x w' => x = .returned (.int .i64 0) ∧ StIs w' S s m (kdVal df) q (membersF df e.st e.tags D) ∧ Kept2 s m w w' := by
  unfold evVal
  go_enter Tryz.func125, Tryz.ntmps125
  have HEa := hid (ext_alloc w (.cells #[] 87))
  have HEb := hid (Ext.trans' HEa.out (ext_alloc (w.alloc (.cells #[] 87)) (.cells #[.string (str e.st), .string (str e.ty), .slice A n c, .slice B k d] 45)))
  have HSt := hid (h.ext HEb.out)
  have Hbx := hid (show EvBox (w.heap.size + 1) A n c B k d e ((w.alloc (.cells #[] 87)).alloc (.cells #[.string (str e.st), .string (str e.ty), .slice A n c, .slice B k d] 45)) from by
    have := heap_alloc_last (w.alloc (.cells #[] 87)) (.cells #[.string (str e.st), .string (str e.ty), .slice A n c, .slice B k d] 45)
    simpa [EvBox] using this)
  have Hev := hid (hev.ext HEb.out)
  have hn := hid hev.tags.1
  have hnc := hev.tags.2.1
  have hcm := hev.tags.2.2.1
  obtain ⟨b0, b1, b2, b3⟩ := Hbx.out.cells
  have Hlt := hid h.lt
  clear hev h
  have Hfit := hid hf
  clear hf
  have HK0 := hid (Kept2.of_ext (d := s) (m := m) HEb.out)
  go_wp2_with fail
  clear b0 b1 b2 b3
  go_loopw [13] (fun i wr => ∃ j : Nat, j ≤ n ∧ i = .int .i64 (j : Int) ∧ Hid (StIs wr S s m (kdVal df) q (membersF df e.st (e.tags.take j) D)) ∧ Hid (Kept2 s m w wr) ∧ Hid (EvS wr S A n c B k d e) ∧ Hid (EvBox (w.heap.size + 1) A n c B k d e wr)) (fun i _ => n - (intOf i).toNat)
  case atStart => exact ⟨0, by omega, rfl, HSt, HK0, Hev, Hbx⟩
  case round =>
    obtain ⟨j, hj, rfl, HS, HK, HV, HB⟩ := hrel
    by_cases hlt : j < n
    · have hjx : j < e.tags.length := by have := hn.out; omega
      have hlt' : (j : Int) < (n : Int) := by omega
      have hj00 : ¬ ((j : Int) < 0) := by omega
      have hj0 : (0 : Int) ≤ (j : Int) := by omega
      obtain ⟨b, o, rfl, -, f0, -⟩ := txt_at HV.out.tags j hjx
      obtain ⟨b0, b1, b2, b3⟩ := HB.out.cells
      have ht := hsm.tags _ (List.getElem_mem hjx)
      have hstl := hsm.st
      have hnx := hid (show membersF df e.st (e.tags.take (j + 1)) D = countF df (keyF e.tags[j] e.st) (membersF df e.st (e.tags.take j) D) by
        rw [← membersF_snoc, List.take_succ_eq_append_getElem hjx])
      have hlenT : (e.tags.take j).length ≤ 1000 := by have := hsm.many; rw [List.length_take]; omega
      have hlen := length_membersF (d := df) (st := e.st) (e.tags.take j) D
      have hfm := membersF_fit (d := df) (st := e.st) (e.tags.take j) Hfit.out (by decide)
      have hfa := atI_fit hfm (by omega) (keyF e.tags[j] e.st)
      have hkl : (keyF e.tags[j] e.st).length ≤ 2001 := by unfold keyF; simp only [List.length_append, List.length_cons, List.length_nil]; omega
      have hks : Short (keyF e.tags[j] e.st) := by unfold Short; omega
      have hov : -9223372036854775808 ≤ atI (membersF df e.st (e.tags.take j) D) (keyF e.tags[j] e.st) + 1 ∧ atI (membersF df e.st (e.tags.take j) D) (keyF e.tags[j] e.st) + 1 ≤ 9223372036854775807 := by omega
      have hDl : (membersF df e.st (e.tags.take j) D).length < 1000000 := by omega
      have hcc := set_at (d := df) HS.out (keyF e.tags[j] e.st) _ hov hks hDl
      have hl := (HS.out.map.look (keyF e.tags[j] e.st) hks).1
      obtain ⟨-, -, -, -, c2, -⟩ := HS.out.cells
      obtain ⟨ky, hky⟩ : ∃ ky, ky = keyF e.tags[j] e.st := ⟨_, rfl⟩
      have ad1 := run_string_add (P := Tryz.prog) (w := wr) (str e.tags[j]) (str [32]) (by rw [str_size]; omega) (by decide)
      have ad2 := run_string_add (P := Tryz.prog) (w := wr) (str e.tags[j] ++ str [32]) (str e.st) (by rw [← str_append, str_size]; simp; omega) (by rw [str_size]; omega)
      have hke : str e.tags[j] ++ str [32] ++ str e.st = str ky := by rw [hky, ← str_append, ← str_append]; rfl
      rw [hke] at ad2
      rw [← hky] at hcc hl hov hnx
      have h32 : str [32] = { data := #[32] } := rfl
      rw [h32] at ad1 ad2
      have hcf := hid (show countF df ky (membersF df e.st (e.tags.take j) D) = setF df ky (atI (membersF df e.st (e.tags.take j) D) ky + 1) (membersF df e.st (e.tags.take j) D) from rfl)
      generalize atI (membersF df e.st (e.tags.take j) D) ky = x at hcc hl hov hcf
      have HT := hid h32
      clear ht hstl hlenT hlen hfm hfa hkl hks hky hke h32 hDl
      generalize e.tags[j] = tg at *
      go_wp2_with fail
      refine hcc.mono ?_
      clear hcc
      rintro e' w' ⟨rfl, hS, hK⟩
      have HS' := hid hS; have HK' := hid (HK.out.trans hK); have HV' := hid (HV.out.kept hK HS.out.sIn HS.out.mIn)
      have HB' := hid (show EvBox (w.heap.size + 1) _ n c B k d e w' from (hK.block _ (Array.getElem?_eq_some_iff.1 HB.out).1 (by have := Hlt.out; omega) (by have := Hlt.out; omega)).trans HB.out)
      clear hS hK
      go_wp2_with fail
      go_roundw
      case rel => exact ⟨j + 1, by omega, by go_num, by rw [hnx.out, hcf.out]; exact HS', HK', HV', HB'⟩
      case measure => simp [intOf]; omega
    · obtain rfl : j = n := by omega
      have hlt' : ¬ ((j : Int) < (j : Int)) := by omega
      have hall := hid (show e.tags.take j = e.tags from List.take_of_length_le (by have := hn.out; omega))
      go_wp2
      go_ret
      exact ⟨rfl, by have := HS.out; rw [hall.out] at this; exact this, HK.out⟩
end Go.Proofs.YtpmmapcjohmniaaGreat
