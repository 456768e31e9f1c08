/- Lists of files: by rising names; a store at a name that is there. Plain. A disk's whole state. -/
import Derived.Test.YtpipmkaljkhgiaaDoorDisk15
import Derived.Test.YtpipmkaljkhgiaaDoorRangeStore
namespace Go.Proofs.YtpipmkaljkhgiaaDoor
open Go Go.RowKit
set_option linter.unusedSimpArgs false
set_option linter.unusedVariables false

theorem bb_irrefl (a : List UInt8) : bytesBefore a a = false := WideShapes.before_irrefl (.string a)
theorem bb_trans {a b c : List UInt8} (h1 : bytesBefore a b = true) (h2 : bytesBefore b c = true) : bytesBefore a c = true := WideShapes.before_trans (a := .string a) (b := .string b) (c := .string c) h1 h2
theorem bb_asymm {a b : List UInt8} (h : bytesBefore a b = true) : bytesBefore b a = false := by
  cases h2 : bytesBefore b a
  · rfl
  · exact absurd (bb_trans h h2) (by rw [bb_irrefl]; decide)
theorem bb_ne {a b : List UInt8} (h : bytesBefore a b = true) : a ≠ b := by
  rintro rfl
  rw [bb_irrefl] at h; cases h
/-- By rising names. -/
def Up {α : Type} (l : List (List UInt8 × α)) : Prop := l.Pairwise fun p q => bytesBefore p.1 q.1 = true
theorem pairwise_of_rising {H : Type} : ∀ (l : List (Lit × DataW H)), DataW.rising l = true → l.Pairwise fun p q => p.1.before q.1 = true
  | [], _ => .nil
  | [x], _ => by simp
  | x :: y :: r, h => by
    have h' : x.1.before y.1 = true ∧ DataW.rising (y :: r) = true := by
      unfold DataW.rising at h
      simpa using h
    have ih := pairwise_of_rising (y :: r) h'.2
    refine List.pairwise_cons.2 ⟨fun q hq => ?_, ih⟩
    rcases List.mem_cons.1 hq with rfl | hq
    · exact h'.1
    · exact WideShapes.before_trans h'.1 ((List.pairwise_cons.1 ih).1 q hq)
theorem MapAt.up {w : World} {m : Nat} {G : Raw} (h : MapAt w m G) : Up G := by
  obtain ⟨es, clock, hb, F, hs, e⟩ := h
  have h1 := pairwise_of_rising _ (Maps.fit_rising keyedS F)
  simp only [DataW.map.injEq] at e
  rw [← e] at h1
  unfold rawL at h1
  rw [List.pairwise_map] at h1
  exact h1
theorem Up.nodup {α : Type} {l : List (List UInt8 × α)} (h : Up l) : (l.map (·.1)).Nodup := by
  rw [List.nodup_iff_pairwise_ne, List.pairwise_map]
  exact h.imp fun hab => bb_ne hab
theorem Held.names {w : World} {S : Nat → Prop} : ∀ {G : Raw} {F : Files}, Held w S G F → G.map (·.1) = F.map (·.1)
  | [], [], _ => rfl
  | p :: G, q :: F, ⟨h1, _, h3⟩ => by rw [List.map_cons, List.map_cons, h1, h3.names]
theorem up_names {α β : Type} {l : List (List UInt8 × α)} {k : List (List UInt8 × β)} (h : Up l) (e : l.map (·.1) = k.map (·.1)) : Up k := by
  have h1 : (l.map (·.1)).Pairwise fun p q => bytesBefore p q = true := by rw [List.pairwise_map]; exact h
  rw [e, List.pairwise_map] at h1
  exact h1
theorem DelL_none {α : Type} (nm : List UInt8) (l : List (List UInt8 × α)) (h : ∀ p ∈ l, p.1 ≠ nm) : l.filter (fun p => !(p.1 == nm)) = l := by
  rw [List.filter_eq_self]
  intro p hp
  simpa using h p hp
/-- A store at a name that is there: the list with that value. -/
theorem putL_there (nm : List UInt8) (v : Value) : ∀ {G : Raw}, Up G → nm ∈ G.map (·.1) → putL nm v G = G.map fun p => if p.1 == nm then (nm, v) else p
  | [], _, h => by simp at h
  | p :: G, hu, h => by
    obtain ⟨h1, h2⟩ := List.pairwise_cons.1 hu
    unfold putL delL
    by_cases e : p.1 = nm
    · have hn : ∀ q ∈ G, q.1 ≠ nm := fun q hq => by rw [← e]; exact (bb_ne (h1 q hq)).symm
      rw [List.filter_cons, if_neg (by simp [e]), DelL_none nm G hn, List.map_cons, if_pos (by simp [e])]
      have : G.map (fun p => if p.1 == nm then (nm, v) else p) = G := by
        conv => rhs; rw [← List.map_id G]
        refine List.map_congr_left fun q hq => ?_
        rw [if_neg (by simpa using hn q hq)]; rfl
      rw [this]
      cases G with
      | nil => rfl
      | cons q r =>
        unfold insL
        rw [if_pos]
        have := h1 q (by simp)
        rw [e] at this; exact this
    · have hm : nm ∈ G.map (·.1) := by
        rw [List.map_cons, List.mem_cons] at h
        rcases h with h | h
        · exact absurd h.symm e
        · exact h
      obtain ⟨q, hq, hqn⟩ := List.mem_map.1 hm
      have hb : bytesBefore nm p.1 = false := bb_asymm (by rw [← hqn]; exact h1 q hq)
      have ih := putL_there nm v h2 hm
      unfold putL delL at ih
      rw [List.filter_cons, if_pos (by simp [e])]
      unfold insL
      show (if bytesBefore nm p.1 = true then _ else _) = _
      rw [if_neg (by rw [hb]; decide), ih, List.map_cons, if_neg (by simpa using e)]
theorem putF_there (nm : List UInt8) (v : File) : ∀ {G : Files}, Up G → nm ∈ G.map (·.1) → putF nm v G = G.map fun p => if p.1 == nm then (nm, v) else p
  | [], _, h => by simp at h
  | p :: G, hu, h => by
    obtain ⟨h1, h2⟩ := List.pairwise_cons.1 hu
    unfold putF delF
    by_cases e : p.1 = nm
    · have hn : ∀ q ∈ G, q.1 ≠ nm := fun q hq => by rw [← e]; exact (bb_ne (h1 q hq)).symm
      rw [List.filter_cons, if_neg (by simp [e]), DelL_none nm G hn, List.map_cons, if_pos (by simp [e])]
      have : G.map (fun p => if p.1 == nm then (nm, v) else p) = G := by
        conv => rhs; rw [← List.map_id G]
        refine List.map_congr_left fun q hq => ?_
        rw [if_neg (by simpa using hn q hq)]; rfl
      rw [this]
      cases G with
      | nil => rfl
      | cons q r =>
        unfold insF
        rw [if_pos]
        have := h1 q (by simp)
        rw [e] at this; exact this
    · have hm : nm ∈ G.map (·.1) := by
        rw [List.map_cons, List.mem_cons] at h
        rcases h with h | h
        · exact absurd h.symm e
        · exact h
      obtain ⟨q, hq, hqn⟩ := List.mem_map.1 hm
      have hb : bytesBefore nm p.1 = false := bb_asymm (by rw [← hqn]; exact h1 q hq)
      have ih := putF_there nm v h2 hm
      unfold putF delF at ih
      rw [List.filter_cons, if_pos (by simp [e])]
      unfold insF
      show (if bytesBefore nm p.1 = true then _ else _) = _
      rw [if_neg (by rw [hb]; decide), ih, List.map_cons, if_neg (by simpa using e)]
theorem length_insF (x : List UInt8 × File) : ∀ F : Files, (insF x F).length = F.length + 1
  | [] => rfl
  | y :: r => by
    unfold insF
    split
    · simp
    · simp [length_insF x r]
theorem length_delF_le (nm : List UInt8) (F : Files) : (delF nm F).length ≤ F.length := List.length_filter_le _ _
theorem length_putF_le (nm : List UInt8) (f : File) (F : Files) : (putF nm f F).length ≤ F.length + 1 := by
  unfold putF
  rw [length_insF]
  have := length_delF_le nm F
  omega
theorem mem_of_atF {F : Files} {nm : List UInt8} {f : File} (h : atF F nm = some f) : nm ∈ F.map (·.1) := by
  unfold atF at h
  cases hf : F.find? (·.1 == nm) with
  | none => rw [hf] at h; cases h
  | some p => exact List.mem_map.2 ⟨p, List.mem_of_find?_eq_some hf, by have := List.find?_some hf; simpa using this⟩
theorem length_putF_there {nm : List UInt8} {f f0 : File} {F : Files} (hu : Up F) (h : atF F nm = some f0) : (putF nm f F).length = F.length := by
  rw [putF_there nm f hu (mem_of_atF h), List.length_map]
theorem length_delF_there {nm : List UInt8} {f0 : File} {F : Files} (hu : Up F) (h : atF F nm = some f0) : (delF nm F).length + 1 = F.length := by
  have h1 := length_putF_there (f := f0) hu h
  unfold putF at h1
  rwa [length_insF] at h1

/-- A disk's whole state: its files' bytes lie outside S, the blocks that are written. -/
structure DiskIs (w : World) (S : Nat → Prop) (d m : Nat) (q l : Int) (F : Files) : Prop where
  str : DiskS w d m q l
  map : ∃ G, MapAt w m G ∧ Held w S G F
  ne : d ≠ m
  own : S d
  ownM : S m
  fresh : ∀ k, w.heap.size ≤ k → ¬ S k
  few : F.length ≤ 200
  lr : -9223372036854775808 ≤ l ∧ l ≤ 9223372036854775807
theorem DiskIs.up {w : World} {S : Nat → Prop} {d m : Nat} {q l : Int} {F : Files} (h : DiskIs w S d m q l F) : Up F := by
  obtain ⟨G, hG, hH⟩ := h.map
  exact up_names hG.up hH.names
theorem DiskIs.ext {w w' : World} {S : Nat → Prop} {d m : Nat} {q l : Int} {F : Files} (h : DiskIs w S d m q l F) (hE : Ext w w') : DiskIs w' S d m q l F := by
  obtain ⟨G, hG, hH⟩ := h.map
  exact ⟨h.str.ext hE, ⟨G, hG.ext hE, hH.kept (Kept2.of_ext (d := d) (m := m) hE) h.own h.ownM⟩, h.ne, h.own, h.ownM, fun k hk => h.fresh k (Nat.le_trans hE.size hk), h.few, h.lr⟩
/-- Another disk's call leaves this one. -/
theorem DiskIs.kept {w w' : World} {S : Nat → Prop} {d m d' m' : Nat} {q l : Int} {F : Files} (h : DiskIs w S d m q l F) (hk : Kept2 d' m' w w') (hd : S d') (hm : S m') (h1 : d ≠ d') (h2 : d ≠ m') (h3 : m ≠ d') (h4 : m ≠ m') : DiskIs w' S d m q l F := by
  obtain ⟨G, hG, hH⟩ := h.map
  refine ⟨h.str.of_block (hk.block d h.str.lt h1 h2), ⟨G, ?_, hH.kept hk hd hm⟩, h.ne, h.own, h.ownM, fun k hk' => h.fresh k (Nat.le_trans hk.size hk'), h.few, h.lr⟩
  have hlt := hG.lt
  obtain ⟨es, clock, e1, e2⟩ := hG
  exact ⟨es, clock, by rw [hk.block m hlt h3 h4]; exact e1, e2⟩
/-- S may be told anew, if it is as it was below the world's size. -/
theorem FileV.more {w : World} {S S' : Nat → Prop} (hS : ∀ k, k < w.heap.size → (S' k ↔ S k)) {v : Value} {f : File} (h : FileV w S v f) : FileV w S' v f := by
  obtain ⟨A, c, h1, h2, h3, h4, h5, h6⟩ := h
  exact ⟨A, c, h1, h2, h3, h4, h5, h6.mono fun k hk => ⟨hk.1, fun h => hk.2 ((hS k hk.1).1 h)⟩⟩
theorem Held.more {w : World} {S S' : Nat → Prop} (hS : ∀ k, k < w.heap.size → (S' k ↔ S k)) : ∀ {G : Raw} {F : Files}, Held w S G F → Held w S' G F
  | [], [], _ => trivial
  | _ :: _, _ :: _, ⟨h1, h2, h3⟩ => ⟨h1, h2.more hS, h3.more hS⟩
theorem burnL_range {l : Int} (h : -9223372036854775808 ≤ l ∧ l ≤ 9223372036854775807) : -9223372036854775808 ≤ burnL l ∧ burnL l ≤ 9223372036854775807 := by
  unfold burnL; split <;> omega
/-- After a call that burns. -/
theorem DiskIs.after {w w' : World} {S : Nat → Prop} {d m : Nat} {q l l' : Int} {F F' : Files} (h : DiskIs w S d m q l F) (hs : DiskS w' d m q l') (hm : ∃ G, MapAt w' m G ∧ Held w' S G F') (hk : Kept2 d m w w') (hf : F'.length ≤ 200)
    (hl : -9223372036854775808 ≤ l' ∧ l' ≤ 9223372036854775807) : DiskIs w' S d m q l' F' := ⟨hs, hm, h.ne, h.own, h.ownM, fun k hk' => h.fresh k (Nat.le_trans hk.size hk'), hf, hl⟩

/-! ### Append, Sync, Remove, Truncate -/
theorem appF_few {q l : Int} {F : Files} {nm bs : List UInt8} (hu : Up F) (hf : F.length ≤ 200) : (appF q l F nm bs).length ≤ 200 := by
  unfold appF
  split
  · rename_i h
    cases hat : atF F nm with
    | some f => rw [length_putF_there hu hat]; exact hf
    | none =>
      have := length_putF_le nm ⟨(oldF F nm).b ++ bs, (oldF F nm).safe⟩ F
      unfold appE at h
      by_cases h1 : l = 0
      · rw [if_pos h1] at h; cases h
      rw [if_neg h1] at h
      by_cases h2 : mayB nm = false
      · rw [if_pos h2] at h; cases h
      rw [if_neg h2] at h
      by_cases h3 : 65536 < (oldF F nm).b.length + bs.length ∨ (atF F nm = none ∧ 200 ≤ F.length)
      · rw [if_pos h3] at h; cases h
      have : ¬ 200 ≤ F.length := fun h4 => h3 (.inr ⟨hat, h4⟩)
      omega
  · exact hf
/-- The bytes may lie where S forbids, but not in the disk's own blocks. -/
theorem append_at2 {w : World} {S : Nat → Prop} {d m : Nat} {q l : Int} {F : Files} (h : DiskIs w S d m q l F) (nm : List UInt8) (hn : nm.length ≤ 9223372036854775807) (A : Option Addr) (n c : Nat) (bs : List UInt8) (hnb : n = bs.length) (hn1 : n ≤ 100000000) (hA : RS w (fun k => k = d ∨ k = m) A bs) :
    Calls Tryd.prog 12 #[.pointer (some ⟨d, 0, none⟩), .string (str nm), .slice A n c] w fun e w' => e = .returned (.int .i64 (appE q l F nm bs)) ∧ DiskIs w' S d m q (burnL l) (appF q l F nm bs) ∧ Kept2 d m w w' := by
  obtain ⟨G, hG, hH⟩ := h.map
  refine (append_raw h.str hG hH h.ne h.own h.ownM h.fresh h.few h.lr nm hn A n c bs hnb hn1 (fun k => k = d ∨ k = m) (.inl rfl) (.inr rfl) hA).mono ?_
  rintro e w' ⟨he, h1, h2, h3⟩
  exact ⟨he, h.after h1 h2 h3 (appF_few h.up h.few) (burnL_range h.lr), h3⟩
theorem append_at {w : World} {S : Nat → Prop} {d m : Nat} {q l : Int} {F : Files} (h : DiskIs w S d m q l F) (nm : List UInt8) (hn : nm.length ≤ 9223372036854775807) (A : Option Addr) (n c : Nat) (bs : List UInt8) (hnb : n = bs.length) (hn1 : n ≤ 100000000) (hA : RS w S A bs) :
    Calls Tryd.prog 12 #[.pointer (some ⟨d, 0, none⟩), .string (str nm), .slice A n c] w fun e w' => e = .returned (.int .i64 (appE q l F nm bs)) ∧ DiskIs w' S d m q (burnL l) (appF q l F nm bs) ∧ Kept2 d m w w' :=
  append_at2 h nm hn A n c bs hnb hn1 (hA.mono fun k hk => ⟨hk.1, by rintro (rfl | rfl); exact hk.2 h.own; exact hk.2 h.ownM⟩)
def knownEF (l : Int) (F : Files) (nm : List UInt8) : Int := if l = 0 then 14 else if (atF F nm).isSome then 0 else 11
def syncF (l : Int) (F : Files) (nm : List UInt8) : Files := if l = 0 then F else match atF F nm with
  | none => F
  | some f => putF nm ⟨f.b, f.b.length⟩ F
def dropF (l : Int) (F : Files) (nm : List UInt8) : Files := if l = 0 then F else match atF F nm with
  | none => F
  | some _ => delF nm F
def truncEF (l : Int) (F : Files) (nm : List UInt8) (t : Int) : Int := if l = 0 then 14 else match atF F nm with
  | none => 11
  | some f => if t < 0 ∨ (f.b.length : Int) < t then 1 else 0
def truncF (l : Int) (F : Files) (nm : List UInt8) (t : Int) : Files := if l = 0 then F else match atF F nm with
  | none => F
  | some f => if t < 0 ∨ (f.b.length : Int) < t then F else putF nm ⟨f.b.take t.toNat, min f.safe t.toNat⟩ F
theorem knownE_eq {w : World} {S : Nat → Prop} {l : Int} {G : Raw} {F : Files} (h : Held w S G F) (nm : List UInt8) : knownE l G nm = knownEF l F nm := by
  unfold knownE knownEF
  rcases h.at_ nm with ⟨h1, h2⟩ | ⟨f, v, h1, h2, -⟩ <;> rw [h1, h2] <;> rfl
theorem sync_at {w : World} {S : Nat → Prop} {d m : Nat} {q l : Int} {F : Files} (h : DiskIs w S d m q l F) (nm : List UInt8) (hn : nm.length ≤ 9223372036854775807) :
    Calls Tryd.prog 13 #[.pointer (some ⟨d, 0, none⟩), .string (str nm)] w fun e w' => e = .returned (.int .i64 (knownEF l F nm)) ∧ DiskIs w' S d m q (burnL l) (syncF l F nm) ∧ Kept2 d m w w' := by
  obtain ⟨G, hG, hH⟩ := h.map
  have hu := h.up
  refine (sync_raw h.str hG h.ne h.lr nm hn (by have := hH.length; have := h.few; omega)).mono ?_
  rintro e w' ⟨he, h1, h2, h3⟩
  have hH' := hH.kept h3 h.own h.ownM
  refine ⟨by rw [he, knownE_eq hH], h.after h1 ⟨_, h2, ?_⟩ h3 ?_ (burnL_range h.lr), h3⟩
  · unfold syncG syncF
    split
    · exact hH'
    · rcases hH'.at_ nm with ⟨e1, e2⟩ | ⟨f, v, e1, e2, A, c, rfl, hc, hcm, hs, hb, hr⟩
      · rw [e1, e2]; exact hH'
      · rw [e1, e2]
        exact hH'.put ⟨A, c, rfl, hc, hcm, Nat.le_refl _, hb, hr⟩
  · unfold syncF
    split
    · exact h.few
    · cases hat : atF F nm with
      | none => exact h.few
      | some f => show (putF nm _ F).length ≤ 200; rw [length_putF_there hu hat]; exact h.few
theorem remove_at {w : World} {S : Nat → Prop} {d m : Nat} {q l : Int} {F : Files} (h : DiskIs w S d m q l F) (nm : List UInt8) (hn : nm.length ≤ 9223372036854775807) :
    Calls Tryd.prog 19 #[.pointer (some ⟨d, 0, none⟩), .string (str nm)] w fun e w' => e = .returned (.int .i64 (knownEF l F nm)) ∧ DiskIs w' S d m q (burnL l) (dropF l F nm) ∧ Kept2 d m w w' := by
  obtain ⟨G, hG, hH⟩ := h.map
  refine (remove_raw h.str hG h.ne h.lr nm hn (by have := hH.length; have := h.few; omega)).mono ?_
  rintro e w' ⟨he, h1, h2, h3⟩
  have hH' := hH.kept h3 h.own h.ownM
  refine ⟨by rw [he, knownE_eq hH], h.after h1 ⟨_, h2, ?_⟩ h3 ?_ (burnL_range h.lr), h3⟩
  · unfold dropG dropF
    split
    · exact hH'
    · rcases hH'.at_ nm with ⟨e1, e2⟩ | ⟨f, v, e1, e2, -⟩
      · rw [e1, e2]; exact hH'
      · rw [e1, e2]; exact hH'.del nm
  · unfold dropF
    split
    · exact h.few
    · cases hat : atF F nm with
      | none => exact h.few
      | some f => exact Nat.le_trans (length_delF_le nm F) h.few
theorem trunc_at {w : World} {S : Nat → Prop} {d m : Nat} {q l : Int} {F : Files} (h : DiskIs w S d m q l F) (nm : List UInt8) (hn : nm.length ≤ 9223372036854775807) (t : Int) :
    Calls Tryd.prog 14 #[.pointer (some ⟨d, 0, none⟩), .string (str nm), .int .i64 t] w fun e w' => e = .returned (.int .i64 (truncEF l F nm t)) ∧ DiskIs w' S d m q (burnL l) (truncF l F nm t) ∧ Kept2 d m w w' := by
  obtain ⟨G, hG, hH⟩ := h.map
  have hu := h.up
  refine (trunc_raw h.str hG h.ne h.lr nm hn (by have := hH.length; have := h.few; omega) t ?_).mono ?_
  · intro A n c sf hat
    rcases hH.at_ nm with ⟨e1, e2⟩ | ⟨f, v, e1, e2, A', c', rfl, hc, -⟩
    · rw [e2] at hat; cases hat
    · rw [e2] at hat
      simp only [Option.some.injEq, Value.agg.injEq, Array.mk.injEq, List.cons.injEq, Value.slice.injEq] at hat
      omega
  rintro e w' ⟨he, h1, h2, h3⟩
  have hH' := hH.kept h3 h.own h.ownM
  refine ⟨?_, h.after h1 ⟨_, h2, ?_⟩ h3 ?_ (burnL_range h.lr), h3⟩
  · rw [he]
    unfold truncE truncEF
    rcases hH.at_ nm with ⟨e1, e2⟩ | ⟨f, v, e1, e2, A', c', rfl, hc, -⟩ <;> rw [e1, e2] <;> rfl
  · unfold truncG truncF
    split
    · exact hH'
    · rcases hH'.at_ nm with ⟨e1, e2⟩ | ⟨f, v, e1, e2, A, c, rfl, hc, hcm, hs, hb, hr⟩
      · rw [e1, e2]; exact hH'
      · rw [e1, e2]
        show Held w' S (if t < 0 ∨ (f.b.length : Int) < t then _ else _) (if t < 0 ∨ (f.b.length : Int) < t then _ else _)
        by_cases ht : t < 0 ∨ (f.b.length : Int) < t
        · rw [if_pos ht, if_pos ht]; exact hH'
        · rw [if_neg ht, if_neg ht]
          have hl : (f.b.take t.toNat).length = t.toNat := by rw [List.length_take]; omega
          refine hH'.put ⟨A, t.toNat, ?_, by rw [hl]; exact Nat.le_refl _, by omega, ?_, ?_, ?_⟩
          · show Value.agg #[.slice A t.toNat t.toNat, .int .i64 (min (f.safe : Int) t)] = Value.agg #[.slice A (f.b.take t.toNat).length t.toNat, .int .i64 ((min f.safe t.toNat : Nat) : Int)]
            rw [hl, show ((min f.safe t.toNat : Nat) : Int) = min (f.safe : Int) t by omega]
          · show min f.safe t.toNat ≤ (f.b.take t.toNat).length
            rw [hl]; omega
          · show (f.b.take t.toNat).length ≤ 65536
            rw [hl]; omega
          · show RK w' _ A (bvs (f.b.take t.toNat))
            rcases hr with h0 | ⟨b, o, e, kb, hv⟩
            · exact .inl (by rw [show f.b = [] by cases hfb : f.b with
                | nil => rfl
                | cons x l => rw [hfb] at h0; simp [bvs] at h0]; simp [bvs])
            · refine .inr ⟨b, o, e, kb, fun j v hj => hv j v ?_⟩
              simp only [bvs, List.getElem?_map, List.getElem?_take] at hj ⊢
              split at hj
              · exact hj
              · cases hj
  · unfold truncF
    split
    · exact h.few
    · cases hat : atF F nm with
      | none => exact h.few
      | some f =>
        show (if _ then _ else _ : Files).length ≤ 200
        split
        · exact h.few
        · rw [length_putF_there hu hat]; exact h.few
theorem fuse_at {w : World} {S : Nat → Prop} {d m : Nat} {q l n : Int} {F : Files} (h : DiskIs w S d m q l F) (hn : n ≤ 9223372036854775807) :
    Calls Tryd.prog 22 #[.pointer (some ⟨d, 0, none⟩), .int .i64 n] w fun e w' => e = .returned (.tuple #[]) ∧ DiskIs w' S d m q (max n 0) F ∧ Kept2 d m w w' := by
  obtain ⟨G, hG, hH⟩ := h.map
  refine (fuse_raw h.str hG h.ne).mono ?_
  rintro e w' ⟨he, h1, h2, h3⟩
  exact ⟨he, h.after h1 ⟨G, h2, hH.kept h3 h.own h.ownM⟩ h3 h.few (by omega), h3⟩
theorem readF_at {w : World} {S : Nat → Prop} {d m : Nat} {q l : Int} {F : Files} (h : DiskIs w S d m q l F) (nm : List UInt8) (hn : nm.length ≤ 9223372036854775807) :
    Calls Tryd.prog 15 #[.pointer (some ⟨d, 0, none⟩), .string (str nm)] w fun e w' => ∃ v, e = .returned (.tuple #[v, .int .i64 (readE F nm)]) ∧ OB w' w.heap.size v (readB F nm) ∧ Ext w w' := by
  obtain ⟨G, hG, hH⟩ := h.map
  exact read_at h.str hG hH nm hn
theorem used_at {w : World} {S : Nat → Prop} {d m : Nat} {q l : Int} {F : Files} (h : DiskIs w S d m q l F) :
    Calls Tryd.prog 18 #[.pointer (some ⟨d, 0, none⟩)] w fun e w' => e = .returned (.int .i64 (usedF F : Int)) ∧ Ext w w' := by
  obtain ⟨G, hG, hH⟩ := h.map
  have := used_raw h.str hG (by rw [hH.total]; have := usedF_le hH; have := h.few; omega)
  rwa [hH.total] at this
theorem newDisk_at {w : World} (q : Int) :
    Calls Tryd.prog 10 #[.int .i64 q] w fun e w' => ∃ d m, e = .returned (.pointer (some ⟨d, 0, none⟩)) ∧ w.heap.size ≤ d ∧ w.heap.size ≤ m ∧ DiskIs w' (fun k => k = d ∨ k = m) d m (max q 0) (-1) [] ∧ Ext w w' := by
  refine (new_disk q w).mono ?_
  rintro e w' ⟨d, m, he, hne, h1, h2, h3, h4, h5⟩
  have hd := h3.lt
  have hm := h4.lt
  exact ⟨d, m, he, h1, h2, ⟨h3, ⟨[], h4, trivial⟩, hne, .inl rfl, .inr rfl, fun k hk => by omega, by simp, by omega⟩, h5⟩
end Go.Proofs.YtpipmkaljkhgiaaDoor
