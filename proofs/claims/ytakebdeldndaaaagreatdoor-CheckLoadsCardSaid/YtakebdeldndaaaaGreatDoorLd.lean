/- Several texts of this claim's, one behind the other. -/
import Derived.Test.YtakebdeldndaaaaGreatDoorRd
import Derived.Test.YtakebdeldndaaaaGreatDoorPja
import Derived.Lib.SliceRun
import Derived.Test.YtakebdeldndaaaaGreatDoorFoy
/- What Set.Load takes from bytes. Plain. -/
namespace Go.Proofs.YtakebdeldndaaaaGreatDoor
open Go
set_option linter.unusedVariables false
def accS : Nat → Ents → List UInt8 → Bool → Ents × List UInt8 × Bool
 | 0, l, bs, bad => (l, bs, bad)
 | n + 1, l, bs, bad => if bad = true then (l, bs, bad) else accS n (l ++ [((textS bs).1, (numS (textS bs).2.1).1)]) (numS (textS bs).2.1).2.1 ((textS bs).2.2 || (numS (textS bs).2.1).2.2)
theorem accS_bad (n : Nat) (l : Ents) (bs : List UInt8) : accS n l bs true = (l, bs, true) := by
 cases n <;> simp [accS]
theorem accS_next (n : Nat) (l : Ents) (bs : List UInt8) : accS (n + 1) l bs false = accS n (l ++ [((textS bs).1, (numS (textS bs).2.1).1)]) (numS (textS bs).2.1).2.1 ((textS bs).2.2 || (numS (textS bs).2.1).2.2) := rfl
def stO (d : DefV) (bs : List UInt8) : Option (Ents × List UInt8) :=
 if (numS bs).2.2 = true ∨ (numS bs).1 < 0 then none else
  if (accS (numS bs).1.toNat [] (numS bs).2.1 false).2.2 = true ∨ okE d (accS (numS bs).1.toNat [] (numS bs).2.1 false).1 = false then none
  else some ((accS (numS bs).1.toNat [] (numS bs).2.1 false).1, (accS (numS bs).1.toNat [] (numS bs).2.1 false).2.1)
def ldO : List DefV → List UInt8 → Option (List Ents × List UInt8)
 | [], bs => some ([], bs)
 | d :: ds, bs => match stO d bs with
  | none => none
  | some x => (ldO ds x.2).map fun y : List Ents × List UInt8 => (x.1 :: y.1, y.2)
def ldAll (ds : List DefV) (bs : List UInt8) : Option (List Ents) := match ldO ds bs with
 | some x => if x.2 = [] then some x.1 else none
 | none => none
theorem ldO_snoc : ∀ (ds : List DefV) (d : DefV) (bs : List UInt8), ldO (ds ++ [d]) bs = match ldO ds bs with
  | none => none
  | some x => (stO d x.2).map fun y : Ents × List UInt8 => (x.1 ++ [y.1], y.2)
 | [], d, bs => by
  show (match stO d bs with
   | none => none
   | some x => (ldO [] x.2).map fun y : List Ents × List UInt8 => (x.1 :: y.1, y.2)) = _
  cases h : stO d bs <;> simp [ldO, h]
 | a :: ds, d, bs => by
  show (match stO a bs with
   | none => none
   | some x => (ldO (ds ++ [d]) x.2).map fun y : List Ents × List UInt8 => (x.1 :: y.1, y.2)) = _
  cases h : stO a bs with
  | none => simp [ldO, h]
  | some x =>
   simp only [ldO, h]
   rw [ldO_snoc ds d x.2]
   cases h2 : ldO ds x.2 with
   | none => rfl
   | some y =>
    simp only [Option.map_some]
    cases h3 : stO d y.2 <;> simp
theorem ldO_len : ∀ {ds : List DefV} {bs : List UInt8} {x : List Ents × List UInt8}, ldO ds bs = some x → x.1.length = ds.length
 | [], bs, x, h => by simp [ldO] at h; subst h; rfl
 | d :: ds, bs, x, h => by
  unfold ldO at h
  split at h
  ·cases h
  ·obtain ⟨y, hy, rfl⟩ := Option.map_eq_some_iff.1 h
   have := ldO_len hy
   simp [this]
theorem ldO_no {ds : List DefV} {bs : List UInt8} {k : Nat} (hk : k < ds.length) {x : List Ents × List UInt8} (h : ldO (ds.take k) bs = some x) (h2 : stO ds[k] x.2 = none) : ldO ds bs = none := by
 have h3 : ldO (ds.take (k + 1)) bs = none := by rw [List.take_succ_eq_append_getElem hk, ldO_snoc, h]; simp [h2]
 have h4 : ∀ (es : List DefV) {fs : List DefV} {b : List UInt8}, ldO fs b = none → ldO (fs ++ es) b = none := by
  intro es fs
  induction fs with
  | nil => intro b h; simp [ldO] at h
  | cons f fs ih =>
   intro b h
   show (match stO f b with
    | none => none
    | some x => (ldO (fs ++ es) x.2).map fun y : List Ents × List UInt8 => (x.1 :: y.1, y.2)) = none
   unfold ldO at h
   cases h5 : stO f b with
   | none => rfl
   | some z => rw [h5] at h; dsimp only at h ⊢; rw [ih (Option.map_eq_none_iff.1 h)]; rfl
 have := h4 (ds.drop (k + 1)) h3
 rwa [List.take_append_drop] at this
theorem ldO_next {ds : List DefV} {bs : List UInt8} {k : Nat} (hk : k < ds.length) {x : List Ents × List UInt8} {y : Ents × List UInt8} (h : ldO (ds.take k) bs = some x) (h2 : stO ds[k] x.2 = some y) : ldO (ds.take (k + 1)) bs = some (x.1 ++ [y.1], y.2) := by
 rw [List.take_succ_eq_append_getElem hk, ldO_snoc, h]; simp [h2]
theorem accS_len : ∀ (n : Nat) (l : Ents) (bs : List UInt8) (bad : Bool), (accS n l bs bad).1.length ≤ l.length + bs.length + 1 ∧ ((accS n l bs bad).2.2 = false → (accS n l bs bad).1.length + (accS n l bs bad).2.1.length ≤ l.length + bs.length)
 | 0, l, bs, bad => ⟨by simp [accS]; omega, fun _ => by simp [accS]⟩
 | n + 1, l, bs, true => by rw [accS_bad]; exact ⟨by dsimp only; omega, fun h => by cases h⟩
 | n + 1, l, bs, false => by
  rw [accS_next]
  have h1 := numS_len (textS bs).2.1
  have h2 := textS_len bs
  cases ht : (textS bs).2.2
  ·have h3 := textS_lt ht
   have := accS_len n (l ++ [((textS bs).1, (numS (textS bs).2.1).1)]) (numS (textS bs).2.1).2.1 (false || (numS (textS bs).2.1).2.2)
   rw [List.length_append, List.length_singleton] at this
   exact ⟨by omega, fun h => by have := this.2 h; omega⟩
  ·rw [Bool.true_or, accS_bad]
   exact ⟨by dsimp only; rw [List.length_append, List.length_singleton]; omega, fun h => by cases h⟩
theorem accS_inv : ∀ (n : Nat) (l : Ents) (bs : List UInt8) {l' : Ents} {r : List UInt8}, accS n l bs false = (l', r, false) → ∃ D, l' = l ++ D ∧ D.length = n ∧ bs = rowB D ++ r
 | 0, l, bs, l', r, h => by
  simp only [accS, Prod.mk.injEq, and_true] at h
  obtain ⟨rfl, rfl⟩ := h
  exact ⟨[], by simp, rfl, by simp [rowB]⟩
 | n + 1, l, bs, l', r, h => by
  rw [accS_next] at h
  cases hb : ((textS bs).2.2 || (numS (textS bs).2.1).2.2)
  rotate_left
  ·rw [hb, accS_bad] at h; simp at h
  rw [hb] at h
  obtain ⟨D, e1, e2, e3⟩ := accS_inv n _ _ h
  rw [Bool.or_eq_false_iff] at hb
  have h1 := textS_ok (bs := bs) (t := (textS bs).1) (r := (textS bs).2.1) (by rw [← hb.1])
  have h2 := (numS_ok (bs := (textS bs).2.1) (x := (numS (textS bs).2.1).1) (r := (numS (textS bs).2.1).2.1) (by rw [← hb.2])).1
  refine ⟨((textS bs).1, (numS (textS bs).2.1).1) :: D, by rw [e1]; simp, by simp [e2], ?_⟩
  show bs = rowB (_ :: D) ++ r
  have e4 : rowB (((textS bs).1, (numS (textS bs).2.1).1) :: D) ++ r = encT (textS bs).1 ++ (encB (numS (textS bs).2.1).1 ++ (rowB D ++ r)) := by simp [rowB, entB]
  rw [e4, ← e3, ← h2, ← h1]
theorem accS_key : ∀ (n N : Nat) (l : Ents) (bs : List UInt8) (bad : Bool), bs.length ≤ N → (∀ p ∈ l, p.1.length ≤ N) → ∀ p ∈ (accS n l bs bad).1, p.1.length ≤ N
 | 0, N, l, bs, bad, hb, h => h
 | n + 1, N, l, bs, true, hb, h => by rw [accS_bad]; exact h
 | n + 1, N, l, bs, false, hb, h => by
  rw [accS_next]
  have h1 := numS_len (textS bs).2.1
  have h2 := textS_len bs
  refine accS_key n N _ _ _ (by omega) fun p hp => ?_
  rcases List.mem_append.1 hp with hp | hp
  ·exact h p hp
  ·simp at hp; subst hp; dsimp only; omega
end Go.Proofs.YtakebdeldndaaaaGreatDoor
/- The closure of proj.Set.Load. -/
namespace Go.Proofs.YtakebdeldndaaaaGreatDoor
open Go Go.RowKit
set_option linter.unusedSimpArgs false
set_option linter.unusedVariables false
theorem RdIs.less {w : World} {S S' : Nat → Prop} {r : Nat} {bs : List UInt8} {bad : Bool} (h : RdIs w S r bs bad) (hS : ∀ k, S' k → S k) (hr : S' r) : RdIs w S' r bs bad := by
 obtain ⟨A, c, h1, h2⟩ := h.row
 exact ⟨⟨A, c, h1, h2.mono fun k hk => ⟨hk.1, fun h' => hk.2 (hS k h')⟩⟩, hr⟩
def RdBox (w : World) (bx r : Nat) : Prop := w.heap[bx]? = some (.cells #[.pointer (some ⟨r, 0, none⟩)] 130)
theorem RdBox.cell {w : World} {bx r : Nat} (h : RdBox w bx r) : w.cell? ⟨bx, 0, none⟩ = some (.pointer (some ⟨r, 0, none⟩)) := by rw [cell_of_row _ _ _ _ _ _ h]; rfl
theorem RdBox.lt {w : World} {bx r : Nat} (h : RdBox w bx r) : bx < w.heap.size := (Array.getElem?_eq_some_iff.1 h).1
theorem RdBox.kept {w w' : World} {bx r a b : Nat} (h : RdBox w bx r) (hk : Kept2 a b w w') (h1 : bx ≠ a) (h2 : bx ≠ b) : RdBox w' bx r := (hk.block bx h.lt h1 h2).trans h
def SY (w : World) (S : Nat → Prop) (k : Nat) : Prop := S k ∨ w.heap.size ≤ k
structure LdC (w : World) (S : Nat → Prop) (s m r bx : Nat) : Prop where
 lt : ∀ k, S k → k < w.heap.size
 sIn : S s
 mIn : S m
 rIn : S r
 bx : ¬ S bx ∧ bx < w.heap.size
 ne : r ≠ s ∧ r ≠ m
structure LdI (w : World) (S : Nat → Prop) (s m : Nat) (d : DefV) (D : Ents) (r bx : Nat) (bs : List UInt8) (bad : Bool) (l : Ents) (u : Value) (W : World) : Prop where
 st : StIs W (SY w S) s m (kdVal d) d.q D
 rd : RdIs W (SY w S) r bs bad
 box : RdBox W bx r
 own : OwnK REnt 150 (fun _ => False) W w.heap.size u l
 kept : Kept2 s r w W
section
variable {w W W' : World} {S : Nat → Prop} {s m r bx : Nat} {d : DefV} {D l l' : Ents} {bs bs' : List UInt8} {bad bad' : Bool} {u u' : Value}
theorem LdI.ext (h : LdI w S s m d D r bx bs bad l u W) (hE : Ext W W') : LdI w S s m d D r bx bs bad l u W' :=
 ⟨h.st.ext hE, h.rd.ext hE, (hE.block bx h.box.lt).trans h.box, h.own.ext hE fun _ h => h.elim, h.kept.trans (Kept2.of_ext hE)⟩
theorem LdI.ownLt (h : LdI w S s m d D r bx bs bad l u W) (k : Nat) (hk : u.ownBlock = some k) : w.heap.size ≤ k ∧ k < W.heap.size := by
 obtain ⟨cs, ho, -⟩ := h.own
 exact World.ownsRow.lt ho k hk
theorem LdI.read (h : LdI w S s m d D r bx bs bad l u W) (c : LdC w S s m r bx) (hR : RdIs W' (SY w S) r bs' bad') (hK : Kept2 r r W W') : LdI w S s m d D r bx bs' bad' l u W' := by
 have hr := c.lt r c.rIn
 refine ⟨h.st.kept hK (.inl c.rIn) (.inl c.rIn) c.ne.1.symm c.ne.1.symm c.ne.2.symm c.ne.2.symm, hR, h.box.kept hK (fun e => c.bx.1 (e ▸ c.rIn)) (fun e => c.bx.1 (e ▸ c.rIn)), ?_, ?_⟩
 ·refine h.own.kept (row := some r) ⟨hK.os, hK.tape, hK.output, hK.size, fun k hk' hne => hK.block k hk' (fun e => hne (by rw [e])) (fun e => hne (by rw [e]))⟩ ?_ (fun _ h => h.elim)
  cases hu : u.ownBlock with
  | none => exact .inl rfl
  | some g => right; intro e; have := h.ownLt g hu; injection e with e; omega
 ·exact ⟨hK.os.trans h.kept.os, hK.tape.trans h.kept.tape, hK.output.trans h.kept.output, Nat.le_trans h.kept.size hK.size, fun k hk h1 h2 => (hK.block k (Nat.lt_of_lt_of_le hk h.kept.size) h2 h2).trans (h.kept.block k hk h1 h2)⟩
theorem LdI.work {y : Nat} (h : LdI w S s m d D r bx bs bad l u W) (c : LdC w S s m r bx) (hK : Kept2 y y W W') (hy : w.heap.size ≤ y) (hu : u.ownBlock ≠ some y) : LdI w S s m d D r bx bs bad l u W' := by
 have h1 := c.lt r c.rIn; have h2 := c.lt s c.sIn; have h3 := c.lt m c.mIn; have h4 := c.bx.2
 refine ⟨h.st.kept hK (.inr hy) (.inr hy) (by omega) (by omega) (by omega) (by omega), h.rd.kept hK (.inr hy) (.inr hy) (by omega) (by omega), h.box.kept hK (by omega) (by omega), ?_, ?_⟩
 ·exact h.own.kept (row := some y) ⟨hK.os, hK.tape, hK.output, hK.size, fun k hk' hne => hK.block k hk' (fun e => hne (by rw [e])) (fun e => hne (by rw [e]))⟩ (.inr hu) (fun _ h => h.elim)
 ·exact ⟨hK.os.trans h.kept.os, hK.tape.trans h.kept.tape, hK.output.trans h.kept.output, Nat.le_trans h.kept.size hK.size, fun k hk h1 h2 => (hK.block k (Nat.lt_of_lt_of_le hk h.kept.size) (by omega) (by omega)).trans (h.kept.block k hk h1 h2)⟩
theorem LdI.app (h : LdI w S s m d D r bx bs bad l u W) (c : LdC w S s m r bx) (ho : OwnK REnt 150 (fun _ => False) W' w.heap.size u' l') (hg : W.grownBy W' u.ownBlock) : LdI w S s m d D r bx bs bad l' u' W' := by
 have h1 := c.lt r c.rIn; have h2 := c.lt s c.sIn; have h3 := c.lt m c.mIn; have h4 := c.bx.2
 cases hu : u.ownBlock with
 | none =>
  rw [hu] at hg
  have hE : Ext W W' := ⟨hg.os, hg.tape, hg.output, hg.size, fun k hk => hg.block k hk (by simp)⟩
  exact ⟨h.st.ext hE, h.rd.ext hE, (hE.block bx h.box.lt).trans h.box, ho, h.kept.trans (Kept2.of_ext hE)⟩
 | some y =>
  rw [hu] at hg
  have hK : Kept2 y y W W' := Kept2.of_grown hg (.inl rfl)
  have hy := (h.ownLt y hu).1
  exact ⟨h.st.kept hK (.inr hy) (.inr hy) (by omega) (by omega) (by omega) (by omega), h.rd.kept hK (.inr hy) (.inr hy) (by omega) (by omega), h.box.kept hK (by omega) (by omega), ho,
   ⟨hK.os.trans h.kept.os, hK.tape.trans h.kept.tape, hK.output.trans h.kept.output, Nat.le_trans h.kept.size hK.size, fun k hk h1 h2 => (hK.block k (Nat.lt_of_lt_of_le hk h.kept.size) (by omega) (by omega)).trans (h.kept.block k hk h1 h2)⟩⟩
end
theorem stO_bad {d : DefV} {bs b1 bk : List UInt8} {f1 : Bool} {N : Int} {k : Nat} {lk : Ents} (hF : stO d bs = if f1 = true ∨ N < 0 then none else if (accS N.toNat [] b1 false).2.2 = true ∨ okE d (accS N.toNat [] b1 false).1 = false then none else some ((accS N.toNat [] b1 false).1, (accS N.toNat [] b1 false).2.1))
  (hA : accS (N.toNat - k) lk bk true = accS N.toNat [] b1 f1) : stO d bs = none := by
 rw [hF]
 cases f1
 ·rw [accS_bad] at hA
  split
  ·rfl
  ·rw [if_pos (.inl (by rw [← hA]))]
 ·rw [if_pos (.inl rfl)]
theorem stO_end {d : DefV} {bs b1 bk : List UInt8} {f1 : Bool} {N : Int} {k : Nat} {lk : Ents} (hF : stO d bs = if f1 = true ∨ N < 0 then none else if (accS N.toNat [] b1 false).2.2 = true ∨ okE d (accS N.toNat [] b1 false).1 = false then none else some ((accS N.toNat [] b1 false).1, (accS N.toNat [] b1 false).2.1))
  (hA : accS (N.toNat - k) lk bk false = accS N.toNat [] b1 f1) (hk : N ≤ (k : Int)) (hN : 0 ≤ N) : stO d bs = if okE d lk = false then none else some (lk, bk) := by
 rw [show N.toNat - k = 0 by omega] at hA
 have h1 : f1 = false := by
  cases f1
  ·rfl
  ·rw [accS_bad] at hA; simp [accS] at hA
 subst h1
 have h2 : accS N.toNat [] b1 false = (lk, bk, false) := hA.symm
 rw [hF, if_neg (by simp; omega), h2]
 simp
structure LdIs (w : World) (S : Nat → Prop) (s m : Nat) (d : DefV) (r bx : Nat) (bs : List UInt8) (e : Ending) (w' : World) : Prop where
 kept : Kept2 s r w w'
 ans : (stO d bs = none ∧ e = .returned (.int .i64 2)) ∨
  (∃ D' bs' m', stO d bs = some (D', bs') ∧ e = .returned (.int .i64 0) ∧ (m' = m ∨ w.heap.size ≤ m') ∧ StIs w' (fun k => S k ∨ k = m') s m' (kdVal d) d.q D' ∧ RdIs w' (fun k => S k ∨ k = m') r bs' false)
set_option maxRecDepth 100000 in
set_option maxHeartbeats 4000000 in
theorem load1_at {w : World} {S : Nat → Prop} {s m r bx : Nat} {d : DefV} {D : Ents} {bs : List UInt8} (hS : StIs w S s m (kdVal d) d.q D) (hR : RdIs w S r bs false) (hb : RdBox w bx r) (hc : LdC w S s m r bx) (hlen : bs.length ≤ 1800000) :
  Calls Tryz.prog 120 #[.pointer (some ⟨s, 0, none⟩), .pointer (some ⟨bx, 0, none⟩)] w fun e w' => LdIs w S s m d r bx bs e w' := by
 have hI : LdI w S s m d D r bx bs false [] (.slice none 0 0) w := ⟨hS.more (Below.refl _ _) (fun k hk => hk) (.inl hc.sIn) (.inl hc.mIn), hR.more (Below.refl _ _) (fun k hk => hk) (.inl hc.rIn), hb, OwnK.nil _ _, Kept2.refl _ _ _⟩
 have HC := hid hc
 have HI := hid hI
 have c0 := hb.cell
 have hcc := rdNum_at hI.rd
 clear hS hR hb hc hI
 go_enter Tryz.func120, Tryz.ntmps120
 go_wp2_with fail
 refine hcc.mono ?_
 clear hcc c0
 rintro e w1 ⟨rfl, hR, hK⟩
 have HI1 := hid (HI.out.read HC.out hR hK)
 clear hR hK
 obtain ⟨N, hN⟩ : ∃ N, N = (numS bs).1 := ⟨_, rfl⟩
 obtain ⟨b1, hb1⟩ : ∃ b, b = (numS bs).2.1 := ⟨_, rfl⟩
 obtain ⟨f1, hf1⟩ : ∃ b, b = (numS bs).2.2 := ⟨_, rfl⟩
 have Hlb := hid (show b1.length ≤ 1800000 by rw [hb1]; have := numS_len bs; omega)
 have hNr := numS_range bs
 have HF := hid (show stO d bs = if f1 = true ∨ N < 0 then none else if (accS N.toNat [] b1 false).2.2 = true ∨ okE d (accS N.toNat [] b1 false).1 = false then none else some ((accS N.toNat [] b1 false).1, (accS N.toNat [] b1 false).2.1) by rw [hf1, hN, hb1]; rfl)
 rw [← hb1, ← hf1, Bool.false_or] at HI1
 rw [← hN] at hNr ⊢
 clear hN hb1 hf1 HI
 go_wp2_with fail
 go_loopw [4, 6] (fun u i wr => ∃ (k : Nat) (lk : Ents) (bk : List UInt8) (fk : Bool), (k : Int) ≤ max N 0 ∧ i = .int .i64 (k : Int) ∧ Hid (LdI w S s m d D r bx bk fk lk u wr) ∧ Hid (accS (N.toNat - k) lk bk fk = accS N.toNat [] b1 f1) ∧ Hid (2 * lk.length + bk.length ≤ 1800002 ∧ (fk = false → 2 * lk.length + bk.length ≤ 1800000)) ∧ Hid (∀ p ∈ lk, I64 p.2)) (fun _ i _ => N.toNat - (intOf i).toNat)
 case atStart => exact ⟨0, [], b1, f1, by omega, rfl, HI1, hid rfl, hid ⟨by have := Hlb.out; simp; omega, fun _ => by have := Hlb.out; simp; omega⟩, hid (fun p hp => by simp at hp)⟩
 case round =>
  obtain ⟨k, lk, bk, fk, hk, rfl, HIk, HAk, HLk, HNk⟩ := hrel
  have c0 := HIk.out.box.cell
  by_cases hlt : (k : Int) < N
  ·have hbad := rdBad_at HIk.out.rd
   cases fk
   rotate_left
   ·-- bad: the loop is left
    have HE := hid (stO_bad HF.out HAk.out)
    have HKk := hid HIk.out.kept
    go_wp2_with fail
    refine hbad.mono ?_
    rintro e wx ⟨rfl, hw⟩
    obtain rfl : wr = wx := hw.symm
    clear hw hbad
    have hN0 : ¬ (N < 0) := by omega
    have hbad := rdBad_at HIk.out.rd
    go_wp2_with fail
    refine hbad.mono ?_
    rintro e wx ⟨rfl, hw⟩
    obtain rfl : wr = wx := hw.symm
    clear hw hbad c0
    go_wp2
    go_ret
    exact ⟨HKk.out, .inl ⟨HE.out, rfl⟩⟩
   ·go_wp2_with fail
    refine hbad.mono ?_
    rintro e wx ⟨rfl, hw⟩
    obtain rfl : wr = wx := hw.symm
    clear hw hbad
    have htx := rdText_at HIk.out.rd (by have := HLk.out.1; omega)
    go_wp2_with fail
    refine htx.mono ?_
    clear htx
    rintro e w2 ⟨rfl, hR, hK⟩
    have HI2 := hid (HIk.out.read HC.out hR hK)
    clear hR hK c0
    have Htl := hid (textS_len bk)
    have Htlt := hid (fun h => textS_lt (bs := bk) h)
    have hN1 : ∃ j, N.toNat - k = j + 1 ∧ N.toNat - (k + 1) = j := ⟨N.toNat - (k + 1), by omega, rfl⟩
    obtain ⟨j, hj1, hj2⟩ := hN1
    rw [hj1] at HAk
    have HA2 := hid ((accS_next j lk bk).symm.trans HAk.out)
    clear HAk hj1
    generalize hT : textS bk = T at *
    obtain ⟨tx, b2, f2⟩ := T
    have Hj2 := hid hj2
    clear hT hj2
    dsimp only at HI2 HA2 Htl Htlt
    rw [Bool.false_or] at HI2
    have hE3 := ext_alloc w2 (.cells #[.string (str tx), .int .i64 0] 150)
    have HI3 := hid (HI2.out.ext hE3)
    have Hyb := hid (And.intro (heap_alloc_last w2 (.cells #[.string (str tx), .int .i64 0] 150)) (show w2.heap.size < (w2.alloc (.cells #[.string (str tx), .int .i64 0] 150)).heap.size by simp))
    have Hyu := hid (show w.heap.size ≤ w2.heap.size ∧ u4.ownBlock ≠ some w2.heap.size from ⟨HI2.out.kept.size, fun e => by have := (HI2.out.ownLt _ e).2; omega⟩)
    have c0 := HI3.out.box.cell
    have hnm := rdNum_at HI3.out.rd
    clear hE3 HI2
    go_wp2_with fail
    generalize w2.alloc (.cells #[.string (str tx), .int .i64 0] 150) = w3 at *
    generalize w2.heap.size = yb at *
    refine hnm.mono ?_
    clear hnm c0
    rintro e w4 ⟨rfl, hR, hK⟩
    have HI4 := hid (HI3.out.read HC.out hR hK)
    have hyr : yb ≠ r := by have := HC.out.lt r HC.out.rIn; have := Hyu.out.1; omega
    have hyb4 := (hK.block yb Hyb.out.2 hyr hyr).trans Hyb.out.1
    have g0 : w4.frozen? ⟨yb, 1, none⟩ = false := by simp [World.frozen?, hyb4]
    have g1 : w4.cell? ⟨yb, 1, none⟩ = some (.int .i64 0) := by rw [cell_of_row _ _ _ _ _ _ hyb4]; rfl
    have Hnl := hid (numS_len b2)
    have Hnlt := hid (fun h => numS_lt (bs := b2) h)
    have Hnr := hid (numS_range b2)
    generalize hT : numS b2 = T at *
    obtain ⟨nm, b3, f3⟩ := T
    dsimp only at HI4 HA2 Hnl Hnlt Hnr ⊢
    clear hT hR hK HI3
    have hyb5 := heap_setCell_row (o := 1) hyb4 (.int .i64 nm)
    have e0 : (w4.setCell ⟨yb, 1, none⟩ (.int .i64 nm)).cell? ⟨yb, 0, none⟩ = some (.string (str tx)) := by rw [cell_of_row _ _ _ _ _ _ hyb5]; rfl
    have e1 : (w4.setCell ⟨yb, 1, none⟩ (.int .i64 nm)).cell? ⟨yb, 1, none⟩ = some (.int .i64 nm) := by rw [cell_of_row _ _ _ _ _ _ hyb5]; rfl
    have HI5 := hid (HI4.out.work HC.out (y := yb) (W' := w4.setCell ⟨yb, 1, none⟩ (.int .i64 nm)) ⟨rfl, rfl, rfl, by simp, fun k hk h1 _ => heap_setCell_other w4 ⟨yb, 1, none⟩ k _ (fun h => h1 h)⟩ Hyu.out.1 Hyu.out.2)
    clear hyb4 hyb5 HI4
    have hE6 := ext_alloc (w4.setCell ⟨yb, 1, none⟩ (.int .i64 nm)) (.cells #[.string (str tx), .int .i64 nm] 150)
    have HI6 := hid (HI5.out.ext hE6)
    have HO6 := hid HI6.out.own
    have hbase := HI6.out.kept.size
    have HB6 := hid (Below.refl w.heap.size ((w4.setCell ⟨yb, 1, none⟩ (.int .i64 nm)).alloc (.cells #[.string (str tx), .int .i64 nm] 150)))
    have HFK := hid (show ∀ k, False → k < w.heap.size from fun _ h => h.elim)
    have Hbox := hid (show ∃ cs, Rows REnt ((w4.setCell ⟨yb, 1, none⟩ (.int .i64 nm)).alloc (.cells #[.string (str tx), .int .i64 nm] 150)) (fun _ => False) [(tx, nm)] cs ∧ RV ((w4.setCell ⟨yb, 1, none⟩ (.int .i64 nm)).alloc (.cells #[.string (str tx), .int .i64 nm] 150)) (some ⟨w4.heap.size, 0, none⟩) cs from
     ⟨_, Rows.single (field_mk (f := (tx, nm)) (by have := Htl.out.2; have := HLk.out.1; unfold Short; dsimp only; omega)), by have := rv_cells (w4.setCell ⟨yb, 1, none⟩ (.int .i64 nm)) [.string (str tx), .int .i64 nm] 150; rwa [show (w4.setCell ⟨yb, 1, none⟩ (.int .i64 nm)).heap.size = w4.heap.size by simp] at this⟩)
    have hll := HLk.out.1
    clear hE6 HI5
    go_wp2_with (at_builtin; refine wpList_appK (w0 := (w4.setCell ⟨yb, 1, none⟩ (.int .i64 nm)).alloc (.cells #[.string (str tx), .int .i64 nm] 150)) (R := REnt) (K := fun _ => False) (xs := lk) (base := w.heap.size) entinfo rfl (.tmp 26) (.tmp 28) rfl rfl HO6 HFK HB6 hbase (some ⟨w4.heap.size, 0, none⟩) 1 1 [(tx, nm)] rfl rfl Hbox (by omega) (by omega) ?_; intro v2 W2 HO7 _ HG7; clear e0 e1)
    all_goals
     have HI7 := hid (HI6.out.app HC.out HO7.out HG7.out.grown)
     go_roundw
     case rel => exact ⟨k + 1, lk ++ [(tx, nm)], b3, f2 || f3, by omega, by go_num, HI7, hid (by rw [Hj2.out]; exact HA2.out), hid ⟨by rw [List.length_append, List.length_singleton]; have := HLk.out.2 trivial; have := Htl.out; have := Hnl.out; omega, fun hf => by
       rw [List.length_append, List.length_singleton]
       rw [Bool.or_eq_false_iff] at hf
       have := HLk.out.2 trivial; have := Htlt.out hf.1; have := Hnlt.out hf.2; omega⟩, hid (fun p hp => by
       rcases List.mem_append.1 hp with hp | hp
       ·exact HNk.out p hp
       ·simp at hp; subst hp; exact Hnr.out)⟩
     case measure => simp [intOf]; omega
  ·have hlt' : ¬ ((k : Int) < N) := hlt
   by_cases hN0 : N < 0
   ·have HE := hid (show stO d bs = none by rw [HF.out, if_pos (.inr hN0)])
    have HKk := hid HIk.out.kept
    clear c0
    go_wp2
    go_ret
    exact ⟨HKk.out, .inl ⟨HE.out, rfl⟩⟩
   have hbad := rdBad_at HIk.out.rd
   cases fk
   rotate_left
   ·have hN1 : ¬ (N < 0) := hN0
    have HE := hid (stO_bad HF.out HAk.out)
    have HKk := hid HIk.out.kept
    go_wp2_with fail
    refine hbad.mono ?_
    rintro e wx ⟨rfl, hw⟩
    obtain rfl : wr = wx := hw.symm
    clear hw hbad
    clear c0
    go_wp2
    go_ret
    exact ⟨HKk.out, .inl ⟨HE.out, rfl⟩⟩
   have HE := hid (stO_end HF.out HAk.out (by omega) (by omega))
   go_wp2_with fail
   refine hbad.mono ?_
   rintro e wx ⟨rfl, hw⟩
   obtain rfl : wr = wx := hw.symm
   clear hw hbad c0
   -- the state takes them
   have hStS : StIs wr S s m (kdVal d) d.q D := HIk.out.st.less (fun k hk => .inl hk) HC.out.sIn HC.out.mIn
   have hRdS : RdIs wr S r bk false := HIk.out.rd.less (fun k hk => .inl hk) HC.out.rIn
   obtain ⟨Al, cl, rfl, hRl⟩ := ownK_out (S := S) HIk.out.own (fun k hk => hk.elim) (fun k hk => HC.out.lt k hk)
   have hld := load_at hStS hRl (by have := HLk.out.1; omega) HNk.out
   have HRd := hid hRdS
   have HKk := hid HIk.out.kept
   have Hsz := hid HIk.out.kept.size
   clear hStS hRdS hRl HIk
   generalize lk.length = nl at *
   go_wp2_with fail
   refine hld.mono ?_
   clear hld
   rintro e w5 ⟨rfl, ⟨m', hm', hS'⟩, hK5⟩
   have HK := hid (show Kept2 s r w w5 from ⟨hK5.os.trans HKk.out.os, hK5.tape.trans HKk.out.tape, hK5.output.trans HKk.out.output, Nat.le_trans HKk.out.size hK5.size, fun k hk h1 h2 => (hK5.block k (Nat.lt_of_lt_of_le hk HKk.out.size) h1 h1).trans (HKk.out.block k hk h1 h2)⟩)
   cases hok : okE d lk
   ·have HE2 := hid (show stO d bs = none by rw [HE.out, if_pos hok])
    rw [loadE_no hok]
    clear hS' hK5 hok
    go_wp2
    go_ret
    exact ⟨HK.out, .inl ⟨HE2.out, rfl⟩⟩
   ·have HE2 := hid (show stO d bs = some (lk, bk) by rw [HE.out, if_neg (by rw [hok]; decide)])
    rw [loadE_ok hok]
    rw [loadF_ok hok] at hS'
    have HS' := hid hS'
    have Hm' := hid (show m' = m ∨ w.heap.size ≤ m' from hm'.imp id fun h => Nat.le_trans Hsz.out h)
    have HR' := hid (show RdIs w5 (fun k => S k ∨ k = m') r bk false from
     (HRd.out.more (Below.refl _ _) (S' := fun k => S k ∨ k = m') (fun k hk => hk.elim .inl fun e => by rcases hm' with h | h; exact .inl (by rw [e, h]; exact HC.out.mIn); exact .inr (by rw [e]; exact h)) (.inl HC.out.rIn)).kept hK5 (.inl HC.out.sIn) (.inl HC.out.sIn) HC.out.ne.1 HC.out.ne.1)
    clear hS' hK5 hok hm'
    go_wp2
    go_ret
    exact ⟨HK.out, .inr ⟨lk, bk, m', HE2.out, rfl, Hm'.out, HS'.out, HR'.out⟩⟩
end Go.Proofs.YtakebdeldndaaaaGreatDoor
/- proj.Set.does with Load's closure. -/
namespace Go.Proofs.YtakebdeldndaaaaGreatDoor
open Go Go.RowKit
set_option linter.unusedSimpArgs false
set_option linter.unusedVariables false
theorem enters_load1 : Enters 120 := enters_of Tryz.func120 (by kernel_rfl) rfl
theorem stO_rest {d : DefV} {bs : List UInt8} {x : Ents × List UInt8} (h : stO d bs = some x) : x.2.length ≤ bs.length := by
 unfold stO at h
 split at h
 ·cases h
 split at h
 ·cases h
 rename_i h1 h2
 have h3 := accS_len (numS bs).1.toNat [] (numS bs).2.1 false
 have h4 := numS_len bs
 injection h with h
 subst h
 have := h3.2 (by cases hb : (accS (numS bs).1.toNat [] (numS bs).2.1 false).2.2 <;> simp_all)
 simp only [List.length_nil] at this
 dsimp only
 omega
theorem ldO_rest : ∀ {ds : List DefV} {bs : List UInt8} {x : List Ents × List UInt8}, ldO ds bs = some x → x.2.length ≤ bs.length
 | [], bs, x, h => by simp [ldO] at h; subst h; exact Nat.le_refl _
 | d :: ds, bs, x, h => by
  unfold ldO at h
  split at h
  ·cases h
  ·rename_i y hy
   obtain ⟨z, hz, rfl⟩ := Option.map_eq_some_iff.1 h
   have h1 := ldO_rest hz
   have h2 := stO_rest hy
   dsimp only
   omega
theorem viewP_zip (L : List Pc) : viewP L = (L.map (·.d)).zip (L.map (·.D)) := by
 unfold viewP
 rw [List.zip_map']
theorem PcsIs.load {w w' : World} {S : Nat → Prop} {L : List Pc} (h : PcsIs w S L) {i : Nat} (hi : i < L.length) {D' : Ents} {m' r : Nat} (hS : StIs w' (fun k => S k ∨ k = m') L[i].s m' (kdVal L[i].d) L[i].d.q D') (hm : m' = L[i].m ∨ w.heap.size ≤ m') (hk : Kept2 L[i].s r w w') (hr : S r) (hb : ¬ Blk L r) :
  PcsIs w' (fun k => S k ∨ k = m') (L.set i ⟨L[i].s, m', L[i].d, D'⟩) := by
 have hx := h.each _ (List.getElem_mem hi)
 have h2 : PcsIs w (fun k => S k ∨ k = m') L := h.more (Below.refl _ _) (fun k hk => hk.elim .inl fun e => by rcases hm with h' | h'; exact .inl (by rw [e, h']; exact hx.mIn); exact .inr (by rw [e]; exact h')) fun k hk => .inl hk
 have hne : ∀ j (hj : j < L.length), j ≠ i → L[j].s ≠ m' ∧ L[j].m ≠ m' := fun j hj e => by
  have hy := h.each _ (List.getElem_mem hj)
  have ha := apart_get h.apart hj hi e
  rcases hm with h' | h'
  ·rw [h']; exact ⟨ha.2.1, ha.2.2.2⟩
  ·have := hy.lt; omega
 refine ⟨fun y hy => ?_, ?_⟩
 ·obtain ⟨j, hj, rfl⟩ := List.getElem_of_mem hy
  rw [List.length_set] at hj
  rw [List.getElem_set]
  split
  ·exact hS
  ·rename_i e
   have ha := apart_get h.apart hj hi (fun e' => e e'.symm)
   exact (h2.each _ (List.getElem_mem hj)).kept hk (.inl hx.sIn) (.inl hr) ha.1 (fun e => hb ⟨_, List.getElem_mem hj, .inl e.symm⟩) ha.2.2.1 (fun e => hb ⟨_, List.getElem_mem hj, .inr e.symm⟩)
 ·rw [List.pairwise_iff_getElem]
  intro a b ha hb' hab
  rw [List.length_set] at ha hb'
  rw [List.getElem_set, List.getElem_set]
  have := List.pairwise_iff_getElem.1 h.apart a b ha hb' hab
  split
  ·rename_i e; subst e
   split
   ·rename_i e; omega
   ·have hn := hne b hb' (by omega)
    exact ⟨this.1, this.2.1, hn.1.symm, hn.2.symm⟩
  ·split
   ·rename_i e; subst e
    have hn := hne a ha (by omega)
    exact ⟨this.1, hn.1, this.2.2.1, hn.2⟩
   ·exact this
structure LdR (w w1 : World) (S1 : Nat → Prop) (p r : Nat) (A : Option Addr) (c : Nat) (L0 : List Pc) (bs : List UInt8) (k : Nat) (L : List Pc) (S : Nat → Prop) (bk : List UInt8) (Es : List Ents) (wr : World) : Prop where
 pcs : PcsIs wr S L
 rd : RdIs wr S r bk false
 sE : L.map (·.s) = L0.map (·.s)
 dE : L.map (·.d) = L0.map (·.d)
 ld : ldO ((L0.map (·.d)).take k) bs = some (Es, bk)
 es : (L.take k).map (·.D) = Es
 lo : ∀ j, S j → S1 j ∨ w1.heap.size ≤ j
 up : ∀ j, S1 j → S j
 lt : ∀ j, S j → j < wr.heap.size
 blk : ∀ j, Blk L j → w.heap.size ≤ j
 free : ¬ Blk L p
 row : SlR Rep.ptr wr (fun j => Free L p wr j ∧ w.heap.size ≤ j) A L.length c (L.map (·.s))
 cell : wr.heap[p]? = some (.cells #[.slice A L.length c] 126)
 kept : Kept2 r r w wr
 size : w1.heap.size ≤ wr.heap.size
section
variable {w w1 wr w2 : World} {S1 S : Nat → Prop} {p r : Nat} {A : Option Addr} {c : Nat} {L0 L : List Pc} {bs bk : List UInt8} {k : Nat} {Es : List Ents}
theorem LdR.len (h : LdR w w1 S1 p r A c L0 bs k L S bk Es wr) : L.length = L0.length := by
 have := congrArg List.length h.sE
 simpa using this
theorem LdR.pLt (h : LdR w w1 S1 p r A c L0 bs k L S bk Es wr) : p < wr.heap.size := (Array.getElem?_eq_some_iff.1 h.cell).1
theorem LdR.ldC (h : LdR w w1 S1 p r A c L0 bs k L S bk Es wr) (hk : k < L.length) (hr : S1 r ∧ r < w.heap.size) {bx : Nat} (hb : ¬ S1 bx ∧ bx < w.heap.size) (hw : w.heap.size ≤ w1.heap.size) : LdC wr S L[k].s L[k].m r bx := by
 have hx := h.pcs.each _ (List.getElem_mem hk)
 have h1 := h.blk L[k].s ⟨_, List.getElem_mem hk, .inl rfl⟩
 have h2 := h.blk L[k].m ⟨_, List.getElem_mem hk, .inr rfl⟩
 have h3 := h.size
 exact ⟨h.lt, hx.sIn, hx.mIn, h.up _ hr.1, ⟨fun e => by rcases h.lo _ e with e | e; exact hb.1 e; omega, by omega⟩, by omega, by omega⟩
theorem LdR.stD (h : LdR w w1 S1 p r A c L0 bs k L S bk Es wr) (hk : k < L.length) (hk0 : k < (L0.map (·.d)).length) : (L0.map (·.d))[k] = L[k].d := by
 have h1 : (L.map (·.d))[k]'(by rw [List.length_map]; exact hk) = (L0.map (·.d))[k]'hk0 := by simp only [h.dE]
 rw [← h1, List.getElem_map]
theorem LdR.bkLen (h : LdR w w1 S1 p r A c L0 bs k L S bk Es wr) : bk.length ≤ bs.length := ldO_rest h.ld
theorem LdR.step (h : LdR w w1 S1 p r A c L0 bs k L S bk Es wr) (hk : k < L.length) (hr : S1 r ∧ r < w.heap.size) (hp : w.heap.size ≤ p ∧ p < w1.heap.size) {D' : Ents} {b' : List UInt8} {m' : Nat}
  (hst : stO L[k].d bk = some (D', b')) (hm : m' = L[k].m ∨ wr.heap.size ≤ m') (hS : StIs w2 (fun j => S j ∨ j = m') L[k].s m' (kdVal L[k].d) L[k].d.q D') (hR : RdIs w2 (fun j => S j ∨ j = m') r b' false) (hK : Kept2 L[k].s r wr w2) :
  LdR w w1 S1 p r A c L0 bs (k + 1) (L.set k ⟨L[k].s, m', L[k].d, D'⟩) (fun j => S j ∨ j = m') b' (Es ++ [D']) w2 := by
 have hx := h.pcs.each _ (List.getElem_mem hk)
 have hlen := h.len
 have hsz := h.size
 have hk0 : k < (L0.map (·.d)).length := by rw [List.length_map]; omega
 have hs := h.blk L[k].s ⟨_, List.getElem_mem hk, .inl rfl⟩
 have hmb := h.blk L[k].m ⟨_, List.getElem_mem hk, .inr rfl⟩
 have hm2 : w.heap.size ≤ m' := by have := h.kept.size; rcases hm with e | e <;> omega
 have hrb : ¬ Blk L r := fun hb => by have := h.blk r hb; omega
 have hblk : ∀ j, Blk (L.set k ⟨L[k].s, m', L[k].d, D'⟩) j → Blk L j ∨ j = m' := by
  rintro j ⟨y, hy, he⟩
  rcases List.mem_or_eq_of_mem_set hy with hy | rfl
  ·exact .inl ⟨y, hy, he⟩
  ·dsimp only at he
   rcases he with he | he
   ·exact .inl ⟨_, List.getElem_mem hk, .inl he⟩
   ·exact .inr he
 have hpS : p ≠ L[k].s ∧ p ≠ L[k].m := ⟨fun e => h.free ⟨_, List.getElem_mem hk, .inl e⟩, fun e => h.free ⟨_, List.getElem_mem hk, .inr e⟩⟩
 have hpm : p ≠ m' := by rcases hm with e | e; exact e ▸ hpS.2; have := h.pLt; omega
 have hsE : (L.set k ⟨L[k].s, m', L[k].d, D'⟩).map (·.s) = L.map (·.s) := by
  rw [List.map_set]
  refine List.ext_getElem (by simp) fun j h1 h2 => ?_
  rw [List.getElem_set]
  split
  ·rename_i e; subst e; rw [List.getElem_map]
  ·rfl
 have hdE : (L.set k ⟨L[k].s, m', L[k].d, D'⟩).map (·.d) = L.map (·.d) := by
  rw [List.map_set]
  refine List.ext_getElem (by simp) fun j h1 h2 => ?_
  rw [List.getElem_set]
  split
  ·rename_i e; subst e; rw [List.getElem_map]
  ·rfl
 refine ⟨h.pcs.load hk hS hm hK (h.up _ hr.1) hrb, hR, by rw [hsE, h.sE], by rw [hdE, h.dE], ldO_next hk0 h.ld (by rw [h.stD hk]; exact hst), ?_, fun j hj => ?_, fun j hj => .inl (h.up j hj), fun j hj => ?_, fun j hj => ?_, fun hb => ?_, ?_, ?_, ?_, Nat.le_trans hsz hK.size⟩
 ·rw [← h.es]
  have h1 : k < (L.set k ⟨L[k].s, m', L[k].d, D'⟩).length := by rw [List.length_set]; exact hk
  rw [List.take_succ_eq_append_getElem h1, List.map_append, List.getElem_set_self, List.take_set_of_le (Nat.le_refl _)]
  rfl
 ·rcases hj with hj | rfl
  ·exact h.lo j hj
  ·rcases hm with e | e
   ·rw [e]; exact h.lo _ hx.mIn
   ·right; omega
 ·rcases hj with hj | rfl
  ·exact Nat.lt_of_lt_of_le (h.lt j hj) hK.size
  ·exact hS.lt.2
 ·rcases hblk j hj with hj | rfl
  ·exact h.blk j hj
  ·exact hm2
 ·rcases hblk p hb with hb | hb
  ·exact h.free hb
  ·exact hpm hb
 ·rw [hsE, List.length_set]
  refine (h.row.ext fun j hj => hK.block j hj.1.1 (fun e => hj.1.2.2 ⟨_, List.getElem_mem hk, .inl e⟩) (fun e => by have := hj.2; omega)).mono fun j hj => ⟨⟨Nat.lt_of_lt_of_le hj.1.1 hK.size, hj.1.2.1, fun hb => ?_⟩, hj.2⟩
  rcases hblk j hb with hb | hb
  ·exact hj.1.2.2 hb
  ·rcases hm with e | e
   ·exact hj.1.2.2 ⟨_, List.getElem_mem hk, .inr (hb.trans e)⟩
   ·have := hj.1.1; omega
 ·rw [List.length_set, hK.block p h.pLt hpS.1 (by omega)]
  exact h.cell
 ·have hk1 := h.kept
  exact ⟨hK.os.trans hk1.os, hK.tape.trans hk1.tape, hK.output.trans hk1.output, Nat.le_trans hk1.size hK.size, fun j hj e1 e2 => (hK.block j (Nat.lt_of_lt_of_le hj hk1.size) (by omega) e1).trans (hk1.block j hj e1 e2)⟩
end
structure LdDid (w : World) (S : Nat → Prop) (p : Nat) (L : List Pc) (r : Nat) (bs : List UInt8) (x : Ending) (w' : World) : Prop where
 kept : Kept2 p r w w'
 ans : (ldO (L.map (·.d)) bs = none ∧ x = .returned (.int .i64 2) ∧ Kept2 r r w w') ∨
  (∃ Es b' L' S', ldO (L.map (·.d)) bs = some (Es, b') ∧ x = .returned (.int .i64 0) ∧ SetIs w' S' p L' ∧ viewP L' = (L.map (·.d)).zip Es ∧ RdIs w' S' r b' false ∧ (∀ k, S' k → (S k ∨ w.heap.size ≤ k) ∧ k < w'.heap.size) ∧ (∀ k, S k → S' k) ∧ RowLo w' w.heap.size p L' ∧ (∀ k, Blk L' k → w.heap.size ≤ k))
set_option maxRecDepth 100000 in
set_option maxHeartbeats 4000000 in
theorem doesLoad_at {w : World} {S : Nat → Prop} {p : Nat} {L : List Pc} (h : SetIs w S p L) (hS : ∀ k, S k → k < w.heap.size) (hl : L.length ≤ 1000) {r bx : Nat} {bs : List UInt8} (hR : RdIs w S r bs false) (hb : RdBox w bx r) (hbS : ¬ S bx) (hrp : p ≠ r) (hlen : bs.length ≤ 1800000) :
  Calls Tryz.prog 104 #[.pointer (some ⟨p, 0, none⟩), .func (.func 120) #[] #[.pointer (some ⟨bx, 0, none⟩)]] w fun x w' => LdDid w S p L r bs x w' := by
 have HSet := hid h
 have HS := hid hS
 have Hb := hid (And.intro hb hbS)
 have HRd := hid hR
 have Hrp := hid hrp
 have Hlen := hid hlen
 have hcc := setClone_at h hS hl
 clear h hS hb hbS hR hrp hlen
 have hg' : ∀ args w, (callFunc 120 args).run Tryz.prog w = .ok (.enter 120 args) w := enters_load1
 go_enter Tryz.func104, Tryz.ntmps104
 go_wp2_with fail
 refine hcc.mono ?_
 clear hcc
 rintro e w1 ⟨hE, p', v, L', rfl, hI⟩
 have HE := hid hE
 have hdone := hI.done
 have hvg := view_get hI.view
 have Hlt := hid (fun k hk => hI.lt k hk)
 have Hxlo := hid hI.xlo
 clear hE
 obtain ⟨A', c', hc', hrow⟩ := hI.rowLo
 have Hp' := hid (And.intro hI.lo.2 hI.pLt)
 have hnc := hrow.2.1
 have hcm := hrow.2.2.1
 have hl' : L'.length ≤ 1000 := by omega
 have Hr := hid (show NewS S p' v L' r ∧ r < w.heap.size from ⟨.inr (.inr (.inr HRd.out.own)), HRd.out.lt⟩)
 have Hbn := hid (show ¬ NewS S p' v L' bx ∧ bx < w.heap.size from ⟨fun hn => by
  have h0 := Hb.out.1.lt
  rcases hn with hn | hn | hn | hn
  ·have := Hp'.out.1; omega
  ·have := Hlt.out bx (.inr (.inl hn)); omega
  ·have := Hlt.out bx (.inr (.inr (.inl hn))); omega
  ·exact Hb.out.2 hn, Hb.out.1.lt⟩)
 have HSup := hid (show ∀ j, NewS S p' v L' j → (S j ∨ w.heap.size ≤ j) ∧ j < w1.heap.size from fun j hj => by
  rcases hj with hj | hj | hj | hj
  ·have := Hp'.out; exact ⟨.inr (by omega), by omega⟩
  ·have := Hlt.out j (.inr (.inl hj)); exact ⟨.inr this.1, this.2⟩
  ·have := Hlt.out j (.inr (.inr (.inl hj))); exact ⟨.inr this.1, this.2⟩
  ·exact ⟨.inl hj, by have := HS.out j hj; have := HE.out.size; omega⟩)
 have HR0 := hid (show LdR w w1 (NewS S p' v L') p' r A' c' L' bs 0 L' (NewS S p' v L') bs [] w1 from
  ⟨hdone.pcs, HRd.out.more HE.out (fun j hj => (HSup.out j hj).1) Hr.out.1, rfl, rfl, rfl, rfl, fun j hj => .inl hj, fun j hj => hj, fun j hj => (HSup.out j hj).2, fun j hj => (Hlt.out j (.inr (.inr (.inl hj)))).1, hdone.pFree, hrow, hc', Kept2.of_ext HE.out, Nat.le_refl _⟩)
 have HdE := hid (show L'.map (·.d) = L.map (·.d) from by
  have := congrArg (List.map Prod.fst) hI.view
  unfold viewP at this
  simp only [List.map_map] at this
  exact this)
 have b0 : w1.cell? ⟨p', 0, none⟩ = some (.slice A' L'.length c') := by rw [cell_of_row _ _ _ _ _ _ hc']; rfl
 clear hI hdone hrow hvg hc'
 generalize hln : L'.length = n' at b0 hnc hl' ⊢
 have Hln := hid hln
 clear hln
 go_wp2_with fail
 clear b0
 go_loopw [16] (fun i wr => ∃ k : Nat, k ≤ n' ∧ i = .int .i64 (k : Int) ∧ Hid (∃ Lk Sk bk Es, LdR w w1 (NewS S p' v L') p' r A' c' L' bs k Lk Sk bk Es wr)) (fun i _ => n' - (intOf i).toNat)
 case atStart => exact ⟨0, by omega, rfl, hid ⟨_, _, _, _, HR0.out⟩⟩
 case round =>
  obtain ⟨k, hk, rfl, HP⟩ := hrel
  obtain ⟨Lk, Sk, bk, Es, hR⟩ := HP.out
  have HR := hid hR
  clear hR HP HR0
  by_cases hlt : k < n'
  ·have hkx : k < Lk.length := by have := Hln.out; have := HR.out.len; omega
   have hkd : k < (L'.map (·.d)).length := by rw [List.length_map]; have := Hln.out; omega
   have hlt' : (k : Int) < (n' : Int) := by omega
   have hk00 : ¬ ((k : Int) < 0) := by omega
   have hk0 : (0 : Int) ≤ (k : Int) := by omega
   obtain ⟨b, o, rfl, -, f0⟩ := ptr_at HR.out.row k (by rw [List.length_map]; exact hkx)
   rw [List.getElem_map] at f0
   have hx := HR.out.pcs.each _ (List.getElem_mem hkx)
   have hbr : RdBox wr bx r := HR.out.kept.block bx Hb.out.1.lt (fun e => Hb.out.2 (e ▸ HRd.out.own)) (fun e => Hb.out.2 (e ▸ HRd.out.own)) |>.trans Hb.out.1
   have hcc := load1_at hx HR.out.rd hbr (HR.out.ldC hkx Hr.out Hbn.out HE.out.size) (by have := HR.out.bkLen; have := Hlen.out; omega)
   have Hst := hid (HR.out.stD hkx hkd)
   have Hnx := hid (fun D' b' m' W h1 h2 h3 h4 h5 => HR.out.step (w2 := W) hkx Hr.out Hp'.out (D' := D') (b' := b') (m' := m') h1 h2 h3 h4 h5)
   have Hno := hid (fun h => ldO_no hkd HR.out.ld h)
   have HKr := hid (fun W (hK : Kept2 Lk[k].s r wr W) => (show Kept2 r r w W from by
    have hk1 := HR.out.kept
    have := HR.out.blk _ ⟨_, List.getElem_mem hkx, .inl rfl⟩
    exact ⟨hK.os.trans hk1.os, hK.tape.trans hk1.tape, hK.output.trans hk1.output, Nat.le_trans hk1.size hK.size, fun j hj e1 e2 => (hK.block j (Nat.lt_of_lt_of_le hj hk1.size) (by omega) e1).trans (hk1.block j hj e1 e2)⟩))
   clear hx hbr
   go_wp2_with fail
   refine hcc.mono ?_
   clear hcc f0
   rintro x w2 ⟨hK, hans⟩
   rcases hans with ⟨hn, rfl⟩ | ⟨D', b', m', hs, rfl, hm, hS2, hR2⟩
   ·have hpost := hid (show LdDid w S p L r bs (.returned (.int .i64 2)) w2 from by
     have h1 := HKr.out _ hK
     refine ⟨⟨h1.os, h1.tape, h1.output, h1.size, fun j hj e1 e2 => h1.block j hj e2 e2⟩, .inl ⟨?_, rfl, h1⟩⟩
     rw [← HdE.out]
     exact Hno.out (by rw [Hst.out]; exact hn))
    clear hn hK
    go_wp2
    go_ret
    exact hpost.out
   ·have Hn := hid (Hnx.out D' b' m' w2 hs hm hS2 hR2 hK)
    clear hs hm hS2 hR2 hK
    go_wp2_with fail
    go_roundw
    case rel => exact ⟨k + 1, by omega, by go_num, hid ⟨_, _, _, _, Hn.out⟩⟩
    case measure => simp [intOf]; omega
  ·obtain rfl : k = n' := by omega
   have hlt' : ¬ ((k : Int) < (k : Int)) := by omega
   have hlk : Lk.length = k := by rw [HR.out.len]; exact Hln.out
   obtain ⟨A0, c0, hc0, -⟩ := HSet.out.row
   have hpl := HSet.out.lt
   have hcw : wr.heap[p]? = some (.cells #[.slice A0 L.length c0] 126) := (HR.out.kept.block p hpl Hrp.out Hrp.out).trans hc0
   have g1 : wr.cell? ⟨p, 0, none⟩ = some (.slice A0 L.length c0) := by rw [cell_of_row _ _ _ _ _ _ hcw]; rfl
   have g2 : wr.frozen? ⟨p, 0, none⟩ = false := by simp [World.frozen?, hcw]
   have g3 : wr.cell? ⟨p', 0, none⟩ = some (.slice A' k c') := by have := HR.out.cell; rw [hlk] at this; rw [cell_of_row _ _ _ _ _ _ this]; rfl
   have hkp : Kept2 p p wr (wr.setCell ⟨p, 0, none⟩ (.slice A' k c')) := ⟨rfl, rfl, rfl, by simp, fun j hj h1 _ => heap_setCell_other wr ⟨p, 0, none⟩ j _ (fun e => h1 e)⟩
   have hnb : ¬ Blk Lk p := fun hb => by have := HR.out.blk p hb; omega
   have hpS : Sk p := HR.out.up _ (.inr (.inr (.inr HSet.out.pIn)))
   have hrow2 : SlR Rep.ptr (wr.setCell ⟨p, 0, none⟩ (.slice A' k c')) (fun j => Free Lk p (wr.setCell ⟨p, 0, none⟩ (.slice A' k c')) j ∧ w.heap.size ≤ j) A' Lk.length c' (Lk.map (·.s)) :=
    (HR.out.row.ext fun j hj => hkp.block j hj.1.1 (by have := hj.2; omega) (by have := hj.2; omega)).mono fun j hj => ⟨⟨Nat.lt_of_lt_of_le hj.1.1 hkp.size, by have := hj.2; omega, hj.1.2.2⟩, hj.2⟩
   have hcl : (wr.setCell ⟨p, 0, none⟩ (.slice A' k c')).heap[p]? = some (.cells #[.slice A' Lk.length c'] 126) := by rw [hlk]; exact heap_setCell_row hcw _
   have hSet : SetIs (wr.setCell ⟨p, 0, none⟩ (.slice A' k c')) Sk p Lk := ⟨⟨A', c', hcl, hrow2.mono fun j hj => hj.1⟩, HR.out.pcs.kept hkp hpS hpS hnb hnb, hpS, hnb⟩
   have hall : ldO (L.map (·.d)) bs = some (Es, bk) := by
    have h1 := HR.out.ld
    rw [List.take_of_length_le (by rw [List.length_map]; have := Hln.out; omega), HdE.out] at h1
    exact h1
   have hview : viewP Lk = (L.map (·.d)).zip Es := by
    have h1 := HR.out.es
    rw [List.take_of_length_le (by omega)] at h1
    rw [viewP_zip, HR.out.dE, HdE.out, h1]
   have hkept : Kept2 p r w (wr.setCell ⟨p, 0, none⟩ (.slice A' k c')) := by
    have h1 := HR.out.kept
    exact ⟨hkp.os.trans h1.os, hkp.tape.trans h1.tape, hkp.output.trans h1.output, Nat.le_trans h1.size hkp.size, fun j hj e1 e2 => (hkp.block j (Nat.lt_of_lt_of_le hj h1.size) e1 e1).trans (h1.block j hj e2 e2)⟩
   have hpost := hid (show LdDid w S p L r bs (.returned (.int .i64 0)) (wr.setCell ⟨p, 0, none⟩ (.slice A' k c')) from
    ⟨hkept, .inr ⟨Es, bk, Lk, Sk, hall, rfl, hSet, hview, HR.out.rd.kept hkp hpS hpS (fun e => Hrp.out e.symm) (fun e => Hrp.out e.symm), fun j hj => by
     have h1 := hkp.size
     refine ⟨?_, Nat.lt_of_lt_of_le (HR.out.lt j hj) h1⟩
     rcases HR.out.lo j hj with h2 | h2
     ·exact (HSup.out j h2).1
     ·right; have := HE.out.size; omega, fun j hj => HR.out.up j (.inr (.inr (.inr hj))), ⟨A', c', hcl, hrow2⟩, HR.out.blk⟩⟩)
   clear hSet hkp hcw hc0 hlk hnb hrow2 hcl hall hview hkept
   go_wp2
   go_ret
   exact hpost.out
end Go.Proofs.YtakebdeldndaaaaGreatDoor
/- proj.Set.Load: the row of pointers, copied. -/
namespace Go.Proofs.YtakebdeldndaaaaGreatDoor
open Go Go.RowKit
set_option linter.unusedSimpArgs false
set_option linter.unusedVariables false
structure CopiedIs (w : World) (xs : List Nat) (e : Ending) (w' : World) : Prop where
 ext : Ext w w'
 ans : ∃ v, e = .returned v ∧ OwnK Rep.ptr 134 (fun _ => False) w' w.heap.size v xs
set_option maxRecDepth 100000 in
theorem ptrClone_at {w : World} {K : Nat → Prop} {A : Option Addr} {n c : Nat} {xs : List Nat} (h : SlR Rep.ptr w K A n c xs) (hl : n ≤ 1000) :
  Calls Tryz.prog 119 #[.slice A n c] w fun e w' => CopiedIs w xs e w' := by
 have hn := hid h.1
 have hnc := h.2.1
 have hcm := h.2.2.1
 cases A with
 | none =>
  have hx : xs = [] := by
   obtain ⟨-, -, -, cs, hr, hv⟩ := h
   rcases hv with hv | ⟨b, o, e, -⟩
   ·have := hr.len
    rw [hv, show Rep.ptr.size = 1 from rfl] at this
    simp at this
    exact List.eq_nil_of_length_eq_zero (by simpa using this.symm)
   ·cases e
  subst hx
  have hpost := hid (show CopiedIs w [] (.returned (.slice none 0 0)) w from ⟨Below.refl _ _, _, rfl, OwnK.nil _ _⟩)
  clear h
  have hq : ∀ w, (binOp .eql 124 (.slice none n c) (.slice none 0 0)).run Tryz.prog w = .ok (.bool true) w := fun w => Lib.run_eql_slice_nil w _ _ _ _ _ _ _ Tryz.underlying124
  go_enter Tryz.func119, Tryz.ntmps119
  go_wp2
  go_ret
  exact hpost.out
 | some a =>
  have hE := ext_alloc w (.cells #[] 134)
  have HE := hid hE
  have HO := hid (OwnK.empty (R := Rep.ptr) (K := fun _ => False) (e := 134) w w.heap.size (Nat.le_refl _))
  have HX := hid (show ∃ cs, Rows Rep.ptr (w.alloc (.cells #[] 134)) (fun _ => False) xs cs ∧ RV (w.alloc (.cells #[] 134)) (some a) cs from by
   obtain ⟨-, -, -, cs, hr, hv⟩ := h.mono (K' := fun _ => True) fun _ _ => trivial
   refine ⟨cs, rows_ptr hr, ?_⟩
   rcases hv with hv | ⟨b, o, e, -, hv⟩
   ·exact .inl hv
   ·exact .inr ⟨b, o, e, fun j u hu => cell_below hE (hv j u hu)⟩)
  have hsz := HE.out.size
  have HK := hid (show ∀ k, False → k < w.heap.size from fun _ h => h.elim)
  clear h hE
  have hq : ∀ w, (binOp .eql 124 (.slice (some a) n c) (.slice none 0 0)).run Tryz.prog w = .ok (.bool false) w := fun w => Lib.run_eql_slice_nil w _ _ _ _ _ _ _ Tryz.underlying124
  go_enter Tryz.func119, Tryz.ntmps119
  go_wp2_with (at_builtin; refine wpList_appK (w0 := w) (R := Rep.ptr) (K := fun _ => False) (xs := []) (base := w.heap.size) ptrinfo rfl (.tmp 5) (.tmp 6) rfl rfl HO HK HE hsz (some a) n c xs rfl hn HX (by simp; omega) (by simp; omega) ?_; intro v2 w2 HO2 HE2 _)
  go_ret
  exact ⟨HE2.out, v2, rfl, HO2.out⟩
structure LoadIs (w : World) (S : Nat → Prop) (p : Nat) (L : List Pc) (bs : List UInt8) (x : Ending) (w' : World) : Prop where
 kept : Kept2 p p w w'
 ans : ∃ L' S', SetIs w' S' p L' ∧ RowLo w' w.heap.size p L' ∧ (∀ k, S' k → (S k ∨ w.heap.size ≤ k) ∧ k < w'.heap.size) ∧ (∀ k, S k → S' k) ∧ (∀ k, Blk L' k → Blk L k ∨ w.heap.size ≤ k) ∧
  ((∃ Es, ldAll (L.map (·.d)) bs = some Es ∧ x = .returned (.int .i64 0) ∧ viewP L' = (L.map (·.d)).zip Es) ∨ (ldAll (L.map (·.d)) bs = none ∧ x = .returned (.int .i64 2) ∧ L' = L))
theorem load_back {w w3 w4 : World} {S S1 : Nat → Prop} {p r : Nat} {L : List Pc} {bs : List UInt8} {v : Value} (hE : Ext w w3) (h : SetIs w3 S1 p L) (h0 : ∀ k, S1 k → k < w3.heap.size) (hS1 : ∀ k, S1 k → S k ∨ w.heap.size ≤ k) (hS2 : ∀ k, S k → S1 k) (hr : S1 r) (hrb : ¬ Blk L r) (hrp : p ≠ r) (hr0 : w.heap.size ≤ r) (hp0 : p < w.heap.size)
  (ho : OwnK Rep.ptr 134 (fun _ => False) w3 (r + 2) v (L.map (·.s))) (hlo : ∀ k, Blk L k → k < r) (hK : Kept2 p r w3 w4) {A0 : Option Addr} {n0 c0 : Nat} (hc : w4.heap[p]? = some (.cells #[.slice A0 n0 c0] 126)) (hld : ldAll (L.map (·.d)) bs = none) :
  LoadIs w S p L bs (.returned (.int .i64 2)) (w4.setCell ⟨p, 0, none⟩ v) := by
 have hkp : Kept2 p p w4 (w4.setCell ⟨p, 0, none⟩ v) := ⟨rfl, rfl, rfl, by simp, fun j hj h1 _ => heap_setCell_other w4 ⟨p, 0, none⟩ j _ (fun e => h1 e)⟩
 have hpcs : PcsIs (w4.setCell ⟨p, 0, none⟩ v) S1 L := (h.pcs.kept hK h.pIn hr h.pFree hrb).kept hkp h.pIn h.pIn h.pFree h.pFree
 obtain ⟨A, c, cs, e, hc1, hm, hrow, hv⟩ := ho.read
 have hl : (L.map (·.s)).length = L.length := List.length_map ..
 have hlt : ∀ k, v.ownBlock = some k → r + 2 ≤ k ∧ k < w3.heap.size := fun k hk => by
  obtain ⟨cs, ho', -⟩ := ho
  exact World.ownsRow.lt ho' k hk
 have hSl : SlR Rep.ptr (w4.setCell ⟨p, 0, none⟩ v) (fun k => Free L p (w4.setCell ⟨p, 0, none⟩ v) k ∧ w.heap.size ≤ k) A (L.map (·.s)).length c (L.map (·.s)) := by
  refine ⟨rfl, hc1, hm, cs, rows_ptr hrow, ?_⟩
  rcases hv with h' | ⟨b, o, e', h'⟩
  ·exact .inl h'
  ·by_cases h0 : (L.map (·.s)).length = 0
   ·left
    have := hrow.len
    rw [h0, Nat.zero_mul] at this
    exact List.eq_nil_of_length_eq_zero this
   ·have hb : v.ownBlock = some b := by rw [e, e']; rfl
    have h1 := hlt b hb
    refine .inr ⟨b, o, e', ⟨⟨Nat.lt_of_lt_of_le h1.2 (Nat.le_trans hK.size hkp.size), by omega, fun hb => by have := hlo b hb; omega⟩, by omega⟩, fun j u hu => ?_⟩
    have h2 := h' j u hu
    have hb4 : (w4.setCell ⟨p, 0, none⟩ v).heap[b]? = w3.heap[b]? := (hkp.block b (Nat.lt_of_lt_of_le h1.2 hK.size) (by omega) (by omega)).trans (hK.block b h1.2 (by omega) (by omega))
    have e : (w4.setCell ⟨p, 0, none⟩ v).cell? ⟨b, o + j, none⟩ = w3.cell? ⟨b, o + j, none⟩ := by unfold World.cell?; dsimp only; rw [hb4]
    rw [e]; exact h2
 rw [hl] at hSl e
 have hcl : (w4.setCell ⟨p, 0, none⟩ v).heap[p]? = some (.cells #[.slice A L.length c] 126) := by rw [← e]; exact heap_setCell_row hc _
 refine ⟨?_, L, S1, ⟨⟨A, c, hcl, hSl.mono fun k hk => hk.1⟩, hpcs, h.pIn, h.pFree⟩, ⟨A, c, hcl, hSl⟩, fun k hk => ⟨hS1 k hk, Nat.lt_of_lt_of_le (h0 k hk) (Nat.le_trans hK.size hkp.size)⟩, hS2, fun k hk => .inl hk, .inr ⟨hld, rfl, rfl⟩⟩
 exact ⟨hkp.os.trans (hK.os.trans hE.os), hkp.tape.trans (hK.tape.trans hE.tape), hkp.output.trans (hK.output.trans hE.output), Nat.le_trans hE.size (Nat.le_trans hK.size hkp.size), fun k hk h1 h2 =>
  (hkp.block k (Nat.lt_of_lt_of_le hk (Nat.le_trans hE.size hK.size)) h1 h1).trans ((hK.block k (Nat.lt_of_lt_of_le hk hE.size) h1 (by omega)).trans (hE.block k hk))⟩
set_option maxRecDepth 100000 in
set_option maxHeartbeats 4000000 in
theorem setLoad_at {w : World} {S : Nat → Prop} {p : Nat} {L : List Pc} (h : SetIs w S p L) (hS : ∀ k, S k → k < w.heap.size) (hl : L.length ≤ 1000) {A : Option Addr} {n c : Nat} {bs : List UInt8} (hb : SlR Rep.u8 w (Out S w) A n c bs) (hlen : bs.length ≤ 1800000) :
  Calls Tryz.prog 80 #[.pointer (some ⟨p, 0, none⟩), .slice A n c] w fun x w' => LoadIs w S p L bs x w' := by
 have HSet := hid h
 have HS := hid hS
 have hnr := rdNew_at hb hS
 have hl1 : (L.map (·.s)).length ≤ 1000 := by rw [List.length_map]; exact hl
 clear h hS hb
 go_enter Tryz.func80, Tryz.ntmps80
 go_wp2_with fail
 refine hnr.mono ?_
 clear hnr
 rintro e w1 ⟨rfl, hR, hE1, hs1⟩
 obtain ⟨r, hrr⟩ : ∃ r, r = w.heap.size := ⟨_, rfl⟩
 have Hr := hid hrr
 rw [← hrr] at hR hs1 ⊢
 have hEa := ext_alloc w1 (.cells #[.pointer (some ⟨r, 0, none⟩)] 130)
 have hbox : RdBox (w1.alloc (.cells #[.pointer (some ⟨r, 0, none⟩)] 130)) (r + 1) r := by rw [← hs1]; exact heap_alloc_last _ _
 have HE2 := hid (hE1.trans' hEa)
 have HS1 := hid (HSet.out.more (S' := fun k => S k ∨ k = r) HE2.out (fun k hk => hk.imp id fun e => by omega) fun k hk => .inl hk)
 have HR2 := hid (hR.ext hEa)
 have Hbox := hid hbox
 have Hs2 := hid (show (w1.alloc (.cells #[.pointer (some ⟨r, 0, none⟩)] 130)).heap.size = r + 2 by simp; omega)
 obtain ⟨A0, c0, hc0, hr0⟩ := HS1.out.row
 have b0 : (w1.alloc (.cells #[.pointer (some ⟨r, 0, none⟩)] 130)).cell? ⟨p, 0, none⟩ = some (.slice A0 L.length c0) := by rw [cell_of_row _ _ _ _ _ _ hc0]; rfl
 have hcp := ptrClone_at hr0 (by omega)
 clear hR hEa hbox hc0 hr0 hE1 hrr
 go_wp2_with fail
 clear b0
 generalize w1.alloc (.cells #[.pointer (some ⟨r, 0, none⟩)] 130) = w2 at *
 refine hcp.mono ?_
 clear hcp hs1
 rintro e w3 ⟨hE3, v, rfl, hO⟩
 have HE3 := hid (HE2.out.trans' hE3)
 have HS3 := hid (HS1.out.ext hE3)
 have HR3 := hid (HR2.out.ext hE3)
 have Hbx3 := hid (show RdBox w3 (r + 1) r from (hE3.block (r + 1) Hbox.out.lt).trans Hbox.out)
 have HO := hid (show OwnK Rep.ptr 134 (fun _ => False) w3 (r + 2) v (L.map (·.s)) by rw [← Hs2.out]; exact hO)
 have Hlt := hid (show ∀ k, (S k ∨ k = r) → k < w3.heap.size from fun k hk => by
  have := hE3.size; have := Hs2.out; have := Hr.out
  rcases hk with hk | hk
  ·have := HS.out k hk; omega
  ·omega)
 obtain ⟨Aw, lw, cw, rfl⟩ : ∃ A l c, v = .slice A l c := by obtain ⟨A, c, _, e, _⟩ := HO.out.read; exact ⟨A, _, c, e⟩
 have hcc := doesLoad_at HS3.out Hlt.out hl HR3.out Hbx3.out (fun hn => by
  have := Hr.out
  rcases hn with hn | hn
  ·have := HS.out (r + 1) hn; omega
  ·omega) (by have := HSet.out.lt; have := Hr.out; omega) hlen
 clear hO hE3
 go_wp2_with fail
 refine hcc.mono ?_
 clear hcc
 rintro x w4 ⟨hK, hans⟩
 have HK := hid hK
 have Hpr := hid (show p < r ∧ r + 1 ≠ p by have := HSet.out.lt; have := Hr.out; omega)
 have Hbk := hid (show ∀ (A0 : Option Addr) (n0 c0 : Nat) (hc : w4.heap[p]? = some (.cells #[.slice A0 n0 c0] 126)) (hld : ldAll (L.map (·.d)) bs = none), LoadIs w S p L bs (.returned (.int .i64 2)) (w4.setCell ⟨p, 0, none⟩ (.slice Aw lw cw)) from fun A0 n0 c0 hc hld =>
  load_back HE3.out HS3.out Hlt.out (fun k hk => hk.imp id fun e => by have := Hr.out; omega) (fun k hk => .inl hk) (.inr rfl) (fun hb => by have := (HSet.out.pcs.lt hb).1; have := Hr.out; omega) (by have := Hpr.out; omega) (by have := Hr.out; omega) HSet.out.lt HO.out (fun k hk => by have := (HSet.out.pcs.lt hk).1; have := Hr.out; omega) HK.out hc hld)
 rcases hans with ⟨hn, rfl, hK2⟩ | ⟨Es, b', L', S', hs, rfl, hS', hv', hR', hlo, hup, hRL, hbl⟩
 ·obtain ⟨A0, c0, hc0, -⟩ := HS3.out.row
  have hc4 := (hK2.block p HS3.out.lt (by have := Hpr.out; omega) (by have := Hpr.out; omega)).trans hc0
  have g1 : w4.cell? ⟨p, 0, none⟩ = some (.slice A0 L.length c0) := by rw [cell_of_row _ _ _ _ _ _ hc4]; rfl
  have g2 : w4.frozen? ⟨p, 0, none⟩ = false := by simp [World.frozen?, hc4]
  have hpost := hid (Hbk.out _ _ _ hc4 (by unfold ldAll; rw [hn]))
  clear hn hK2 hc0 hc4 hK
  go_wp2
  go_ret
  exact hpost.out
 ·have Hbx4 := hid (show RdBox w4 (r + 1) r from (HK.out.block (r + 1) Hbx3.out.lt Hpr.out.2 (by omega)).trans Hbx3.out)
  have e1 := Hbx4.out.cell
  have hlf := rdLeft_at hR'
  obtain ⟨A0, c0, hc4, -⟩ := hS'.row
  have Hend := hid (show b' = [] → LoadIs w S p L bs (.returned (.int .i64 0)) w4 from fun hb => ⟨⟨HK.out.os.trans HE3.out.os, HK.out.tape.trans HE3.out.tape, HK.out.output.trans HE3.out.output, Nat.le_trans HE3.out.size HK.out.size, fun k hk h1 h2 => (HK.out.block k (Nat.lt_of_lt_of_le hk HE3.out.size) h1 (by have := Hr.out; omega)).trans (HE3.out.block k hk)⟩,
   L', S', hS', hRL.down HE3.out.size, fun k hk => ⟨by
    rcases (hlo k hk).1 with (h | h) | h
    ·exact .inl h
    ·right; have := Hr.out; omega
    ·right; have := HE3.out.size; omega, (hlo k hk).2⟩, fun k hk => hup k (.inl hk), fun k hk => .inr (Nat.le_trans HE3.out.size (hbl k hk)), .inl ⟨Es, by unfold ldAll; rw [hs, hb]; rfl, rfl, hv'⟩⟩)
  have Hno := hid (show b' ≠ [] → ldAll (L.map (·.d)) bs = none from fun hb => by unfold ldAll; rw [hs]; exact if_neg hb)
  have g1 : w4.cell? ⟨p, 0, none⟩ = some (.slice A0 L'.length c0) := by rw [cell_of_row _ _ _ _ _ _ hc4]; rfl
  have g2 : w4.frozen? ⟨p, 0, none⟩ = false := by simp [World.frozen?, hc4]
  have Hbk2 := hid (Hbk.out _ _ _ hc4)
  clear hs hS' hv' hR' hlo hup hRL hbl hK hc4
  cases b' with
  | nil =>
   have h0 : ¬ ((0 : Int) < (([] : List UInt8).length : Int)) := by decide
   go_wp2_with fail
   refine hlf.mono ?_
   clear hlf
   rintro e wx ⟨rfl, hw⟩
   obtain rfl : w4 = wx := hw.symm
   clear hw
   go_wp2
   go_ret
   exact Hend.out trivial
  | cons a rr =>
   have h0 : (0 : Int) < ((a :: rr : List UInt8).length : Int) := by rw [List.length_cons]; omega
   have Hno2 := hid (Hno.out (by simp))
   clear Hno Hend
   generalize (a :: rr : List UInt8).length = nb at *
   go_wp2_with fail
   refine hlf.mono ?_
   clear hlf
   rintro e wx ⟨rfl, hw⟩
   obtain rfl : w4 = wx := hw.symm
   clear hw
   go_wp2
   go_ret
   exact Hbk2.out Hno2.out
end Go.Proofs.YtakebdeldndaaaaGreatDoor
/- What Set.Put writes is what Set.Load takes. Plain. -/
namespace Go.Proofs.YtakebdeldndaaaaGreatDoor
open Go
set_option linter.unusedVariables false
theorem stO_inv {d : DefV} {bs : List UInt8} {x : Ents × List UInt8} (h : stO d bs = some x) : bs = stB x.1 ++ x.2 ∧ okE d x.1 = true ∧ x.1.length ≤ bs.length ∧ ∀ p ∈ x.1, p.1.length ≤ bs.length := by
 unfold stO at h
 split at h
 ·cases h
 split at h
 ·cases h
 rename_i h1 h2
 injection h with h
 have hn : (numS bs).2.2 = false ∧ 0 ≤ (numS bs).1 := by
  cases hb : (numS bs).2.2 <;> simp [hb] at h1 ⊢
  exact h1
 have hb := (numS_ok (bs := bs) (x := (numS bs).1) (r := (numS bs).2.1) (by rw [← hn.1])).1
 have hl := accS_len (numS bs).1.toNat [] (numS bs).2.1 false
 have hky := accS_key (numS bs).1.toNat bs.length [] (numS bs).2.1 false (numS_len bs) (fun p hp => by simp at hp)
 have hnl := numS_len bs
 have hi := fun l' r => accS_inv (numS bs).1.toNat [] (numS bs).2.1 (l' := l') (r := r)
 generalize accS (numS bs).1.toNat [] (numS bs).2.1 false = T at *
 obtain ⟨T1, T2, T3⟩ := T
 dsimp only at h h2 hl hky
 obtain rfl : T3 = false := by cases T3 <;> simp at h2 ⊢
 obtain ⟨D, e1, e2, e3⟩ := hi T1 T2 rfl
 rw [List.nil_append] at e1
 subst e1 h
 dsimp only
 refine ⟨?_, by cases ho : okE d T1 <;> simp [ho] at h2 ⊢, ?_, hky⟩
 ·unfold stB
  rw [e2, List.append_assoc, ← e3, Int.toNat_of_nonneg hn.2]
  exact hb
 ·have := hl.2 rfl
  simp only [List.length_nil] at this
  omega
theorem ldO_inv : ∀ {ds : List DefV} {bs : List UInt8} {x : List Ents × List UInt8}, ldO ds bs = some x → bs = setB (ds.zip x.1) ++ x.2 ∧ ∀ y ∈ ds.zip x.1, okE y.1 y.2 = true ∧ y.2.length ≤ bs.length ∧ ∀ p ∈ y.2, p.1.length ≤ bs.length
 | [], bs, x, h => by
  simp [ldO] at h; subst h
  exact ⟨rfl, fun y hy => by simp at hy⟩
 | d :: ds, bs, x, h => by
  unfold ldO at h
  split at h
  ·cases h
  ·rename_i y hy
   obtain ⟨z, hz, rfl⟩ := Option.map_eq_some_iff.1 h
   obtain ⟨h1, h2, h3, h4⟩ := stO_inv hy
   obtain ⟨h5, h6⟩ := ldO_inv hz
   have hl : y.2.length ≤ bs.length := by
    have := congrArg List.length h1
    rw [List.length_append] at this
    omega
   refine ⟨?_, fun u hu => ?_⟩
   ·dsimp only
    rw [List.zip_cons_cons]
    unfold setB
    rw [List.flatMap_cons, List.append_assoc]
    dsimp only
    have h7 : (ds.zip z.1).flatMap (fun x => stB x.2) ++ z.2 = y.2 := h5.symm
    rw [h7]
    exact h1
   ·dsimp only at hu
    rw [List.zip_cons_cons] at hu
    rcases List.mem_cons.1 hu with rfl | hu
    ·exact ⟨h2, h3, h4⟩
    ·obtain ⟨g1, g2, g3⟩ := h6 u hu
     exact ⟨g1, by omega, fun p hp => by have := g3 p hp; omega⟩
theorem ldAll_inv {ds : List DefV} {bs : List UInt8} {Es : List Ents} (h : ldAll ds bs = some Es) : Es.length = ds.length ∧ setB (ds.zip Es) = bs ∧ ∀ y ∈ ds.zip Es, okE y.1 y.2 = true ∧ y.2.length ≤ bs.length ∧ ∀ p ∈ y.2, p.1.length ≤ bs.length := by
 unfold ldAll at h
 split at h
 ·rename_i x hx
  split at h
  ·rename_i h0
   injection h with h
   subst h
   have h1 := ldO_inv hx
   rw [h0, List.append_nil] at h1
   exact ⟨ldO_len hx, h1.1.symm, h1.2⟩
  ·cases h
 ·cases h
end Go.Proofs.YtakebdeldndaaaaGreatDoor
/- One set, or two side by side, that load. -/
namespace Go.Proofs.YtakebdeldndaaaaGreatDoor
open Go Go.RowKit
set_option linter.unusedSimpArgs false
set_option linter.unusedVariables false
theorem ob_out {w : World} {S : Nat → Prop} {base : Nat} {v : Value} {bs : List UInt8} (h : OB w base v bs) (hS : ∀ k, S k → k < base) : ∃ A c, v = .slice A bs.length c ∧ SlR Rep.u8 w (Out S w) A bs.length c bs :=
 ownK_out (R := Rep.u8) (e := 5) (K := fun _ => False) ⟨bvs bs, h, rows_u8 bs⟩ (fun _ h => h.elim) hS
structure One (n0 : Nat) (w : World) (S : Nat → Prop) (p : Nat) (L : List Pc) : Prop where
 A : SetIs w S p L
 lt : ∀ k, S k → k < w.heap.size
 lo : ∀ k, S k → n0 ≤ k
section
variable {n0 : Nat} {w w' : World} {S S' : Nat → Prop} {p q : Nat} {L M : List Pc}
theorem One.ext (h : One n0 w S p L) (hE : Ext w w') : One n0 w' S p L := ⟨h.A.ext hE, fun k hk => Nat.lt_of_lt_of_le (h.lt k hk) hE.size, h.lo⟩
theorem one_new {n : Nat} (h1 : SetIs w S p L) (hb1 : ∀ k, Blk L k ∨ k = p → n ≤ k ∧ k < w.heap.size) : One n w (fun k => k = p ∨ Blk L k) p L :=
 ⟨h1.less (fun k hk => by
  rcases hk with rfl | hk
  ·exact h1.pIn
  ·exact (h1.pcs.lt hk).2) (fun k hk => .inr hk) (.inl rfl), fun k hk => (hb1 k hk.symm).2, fun k hk => (hb1 k hk.symm).1⟩
end
theorem viewP_ds (L : List Pc) (ds : List DefV) (h : viewP L = ds.map fun d => (d, [])) : L.map (·.d) = ds := by
 have := congrArg (List.map Prod.fst) h
 unfold viewP at this
 simp only [List.map_map] at this
 exact this.trans (List.map_id _)
end Go.Proofs.YtakebdeldndaaaaGreatDoor
