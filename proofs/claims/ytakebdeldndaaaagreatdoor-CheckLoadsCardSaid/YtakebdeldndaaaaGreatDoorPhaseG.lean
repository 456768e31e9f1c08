/- A drawn region that holds two operations that write, the second behind the first; its other operations make the world grow at most. In each of the three stretches another claim holds of the world; T: what no step of any of them turns. -/
import Derived.Test.YtakebdeldndaaaaGreatDoorFound
namespace Go.Proofs.YtakebdeldndaaaaGreatDoor
open Go Go.RowKit
def phaseOkG (l : List Oper) (p q : Nat) : Bool := decide (p ≠ q) && decide (p < l.length) && decide (q < l.length) && (match l[q]? with | some o => (waitsOn o).contains p || (waitsOn o).any (fun m => match l[m]? with | some x => (waitsOn x).contains p | none => false) | none => false)
def earlyOf (ops : Array Oper) (p i : Nat) : Bool := match ops[p]? with | some o => (waitsOn o).contains i | none => false
def stepPg (P : Program) (ops : Array Oper) (a0 : Act) (T Tp : World → World → Prop) (B : World → Prop) (I0 I1 I2 : World → Prop) (R : Nat → Value → World → Prop) (p q i : Nat) (o : Oper) : Prop :=
 ∀ (v : Nat → Value) (w : World), B w → (i = p → I0 w) → (i = q → I1 w) → (earlyOf ops p i = true → I0 w) → deps R v w (waitsOn o) →
  if Region.wanted o (yielded ops (putAll v ops.toList 0 a0).tmps) then o.wp P (putAll v ops.toList 0 a0) w (fun a' w' => ∃ x, a' = (putAll v ops.toList 0 a0).put o.dst x ∧ (if i = p then (B w' ∧ I1 w') ∧ Tp w w' else if i = q then (B w' ∧ I2 w') ∧ T w w' else Ext w w') ∧ R i x w') (fun _ _ _ => False)
  else R i undef w ∧ i ≠ p ∧ i ≠ q
def allStepsPg (P : Program) (ops : Array Oper) (a0 : Act) (T Tp : World → World → Prop) (B : World → Prop) (I0 I1 I2 : World → Prop) (R : Nat → Value → World → Prop) (p q : Nat) : List Oper → Nat → Prop
 | [], _ => True
 | o :: l, i => stepPg P ops a0 T Tp B I0 I1 I2 R p q i o ∧ allStepsPg P ops a0 T Tp B I0 I1 I2 R p q l (i + 1)
theorem allStepsPg_get {P : Program} {ops : Array Oper} {a0 : Act} {T Tp : World → World → Prop} {B I0 I1 I2 : World → Prop} {R : Nat → Value → World → Prop} {p q : Nat} : ∀ (l : List Oper) (k : Nat), allStepsPg P ops a0 T Tp B I0 I1 I2 R p q l k → ∀ i o, l[i]? = some o → stepPg P ops a0 T Tp B I0 I1 I2 R p q (k + i) o
 | [], _, _, i, o, h => by simp at h
 | x :: l, k, ⟨h0, h1⟩, i, o, h => by
  cases i with
  | zero => simp at h; subst h; exact h0
  | succ i =>
   have := allStepsPg_get l (k + 1) h1 i o (by simpa using h)
   rwa [show k + (i + 1) = k + 1 + i by omega]
theorem stepPg_quiet {P : Program} {ops : Array Oper} {a0 : Act} {T Tp : World → World → Prop} {B I0 I1 I2 : World → Prop} {R : Nat → Value → World → Prop} {p q i : Nat} {o : Oper} (h1 : i ≠ p) (h2 : i ≠ q)
  (h : ∀ (v : Nat → Value) (w : World), B w → deps R v w (waitsOn o) → if Region.wanted o (yielded ops (putAll v ops.toList 0 a0).tmps) then o.wp P (putAll v ops.toList 0 a0) w (fun a' w' => ∃ x, a' = (putAll v ops.toList 0 a0).put o.dst x ∧ Ext w w' ∧ R i x w') (fun _ _ _ => False) else R i undef w) : stepPg P ops a0 T Tp B I0 I1 I2 R p q i o := by
 intro v w hB _ _ _ hd
 have := h v w hB hd
 simp only [if_neg h1, if_neg h2]
 split
 ·rename_i hw; rw [if_pos hw] at this; exact this
 ·rename_i hw; rw [if_neg hw] at this; exact ⟨this, h1, h2⟩
theorem stepPg_early {P : Program} {ops : Array Oper} {a0 : Act} {T Tp : World → World → Prop} {B I0 I1 I2 : World → Prop} {R : Nat → Value → World → Prop} {p q i : Nat} {o : Oper} (h1 : i ≠ p) (h2 : i ≠ q) (he : earlyOf ops p i = true)
  (h : ∀ (v : Nat → Value) (w : World), B w ∧ I0 w → deps R v w (waitsOn o) → if Region.wanted o (yielded ops (putAll v ops.toList 0 a0).tmps) then o.wp P (putAll v ops.toList 0 a0) w (fun a' w' => ∃ x, a' = (putAll v ops.toList 0 a0).put o.dst x ∧ Ext w w' ∧ R i x w') (fun _ _ _ => False) else R i undef w) : stepPg P ops a0 T Tp B I0 I1 I2 R p q i o := by
 intro v w hB _ _ h0 hd
 have := h v w ⟨hB, h0 he⟩ hd
 simp only [if_neg h1, if_neg h2]
 split
 ·rename_i hw; rw [if_pos hw] at this; exact this
 ·rename_i hw; rw [if_neg hw] at this; exact ⟨this, h1, h2⟩
theorem stepPg_fst {P : Program} {ops : Array Oper} {a0 : Act} {T Tp : World → World → Prop} {B I0 I1 I2 : World → Prop} {R : Nat → Value → World → Prop} {p q : Nat} {o : Oper}
  (h : ∀ (v : Nat → Value) (w : World), B w ∧ I0 w → deps R v w (waitsOn o) → (Region.wanted o (yielded ops (putAll v ops.toList 0 a0).tmps) = true ∧ o.wp P (putAll v ops.toList 0 a0) w (fun a' w' => ∃ x, a' = (putAll v ops.toList 0 a0).put o.dst x ∧ ((B w' ∧ I1 w') ∧ Tp w w') ∧ R p x w') (fun _ _ _ => False))) : stepPg P ops a0 T Tp B I0 I1 I2 R p q p o := by
 intro v w hB h0 _ _ hd
 obtain ⟨h1, h2⟩ := h v w ⟨hB, h0 rfl⟩ hd
 rw [if_pos h1]
 simp only [↓reduceIte]
 exact h2
theorem stepPg_snd {P : Program} {ops : Array Oper} {a0 : Act} {T Tp : World → World → Prop} {B I0 I1 I2 : World → Prop} {R : Nat → Value → World → Prop} {p q : Nat} {o : Oper} (hpq : q ≠ p)
  (h : ∀ (v : Nat → Value) (w : World), B w ∧ I1 w → deps R v w (waitsOn o) → (Region.wanted o (yielded ops (putAll v ops.toList 0 a0).tmps) = true ∧ o.wp P (putAll v ops.toList 0 a0) w (fun a' w' => ∃ x, a' = (putAll v ops.toList 0 a0).put o.dst x ∧ ((B w' ∧ I2 w') ∧ T w w') ∧ R q x w') (fun _ _ _ => False))) : stepPg P ops a0 T Tp B I0 I1 I2 R p q q o := by
 intro v w hB _ h0 _ hd
 obtain ⟨h1, h2⟩ := h v w ⟨hB, h0 rfl⟩ hd
 rw [if_pos h1]
 simp only [if_neg hpq, ↓reduceIte]
 exact h2
set_option maxHeartbeats 1000000 in
theorem wp_region_pg {P : Program} {id : Nat} {l : List Oper} {Q : Exit → Act → World → Prop} {a0 : Act} {w0 : World} (R : Nat → Value → World → Prop) (p q : Nat) (T Tp : World → World → Prop) (B I0 I1 I2 : World → Prop)
  (hm : P.follows .mixedOrders = true) (hok : regionOk l a0.tmps.size = true) (hph : phaseOkG l p q = true)
  (start : ∀ w, Ext w0 w → B w ∧ I0 w)
  (keep : ∀ w w', Ext w w' → T w w' ∧ (B w → B w') ∧ (I0 w → I0 w') ∧ (I1 w → I1 w') ∧ (I2 w → I2 w'))
  (still : ∀ i v w w', T w w' → R i v w → R i v w') (stillp : ∀ i v w w', i ≠ p → Tp w w' → R i v w → R i v w')
  (steps : allStepsPg P l.toArray a0 T Tp B I0 I1 I2 R p q l 0)
  (fin : ∀ (v : Nat → Value) (w : World), B w → I2 w → allOf R v w l 0 → Q .normal (putAll v l 0 a0) w) :
  (Code.region id l.toArray true).wp P Q a0 w0 := by
 simp only [regionOk, Bool.and_eq_true, decide_eq_true_eq] at hok
 obtain ⟨⟨hback, hnd⟩, hsz⟩ := hok
 have hback' : ∀ i o, l[i]? = some o → ∀ j ∈ waitsOn o, j < i := by
  intro i o ho j hj
  have h1 := List.all_eq_true.1 hback (o, i) (by
   rw [List.mem_zipIdx_iff_getElem?]; exact ho)
  have h2 := List.all_eq_true.1 h1 j hj
  simpa using h2
 have hwait : ∀ i (listed : Array Bool), i ∈ Region.ready .any l.toArray listed ↔ (i < l.length ∧ listed.getD i true = false ∧ ∀ o, l[i]? = some o → ∀ j ∈ waitsOn o, listed.getD j false = true) := by
  intro i listed
  unfold Region.ready
  simp only [List.mem_filter, List.mem_range, List.size_toArray, Bool.and_eq_true, Bool.not_eq_true']
  refine and_congr_right fun hi => and_congr_right fun _ => ?_
  simp only [List.getElem?_toArray, List.getElem?_eq_getElem hi, Option.map_some, Option.getD_some, Option.some.injEq]
  constructor
  ·intro h o ho j hj
   subst ho
   simp only [waitsOn, List.mem_map, List.mem_filter] at hj
   obtain ⟨e, ⟨he, hb⟩, rfl⟩ := hj
   have := Array.all_eq_true_iff_forall_mem.1 h e (by simpa using he)
   simpa [hb] using this
  ·intro h
   rw [Array.all_eq_true_iff_forall_mem]
   intro e he
   by_cases hb : Region.binds .any e = true
   ·have := h _ rfl e.on (by
     simp only [waitsOn, List.mem_map, List.mem_filter]
     exact ⟨e, ⟨by simpa using he, hb⟩, rfl⟩)
    simp [hb, this]
   ·simp [hb]
 simp only [phaseOkG, Bool.and_eq_true, decide_eq_true_eq] at hph
 obtain ⟨⟨⟨hpq, hpl⟩, hql⟩, hwq⟩ := hph
 have hwq' : ∀ o, l[q]? = some o → p ∈ waitsOn o ∨ ∃ m ∈ waitsOn o, ∃ x, l[m]? = some x ∧ p ∈ waitsOn x := by
  intro o ho
  rw [ho] at hwq
  simp only [Bool.or_eq_true, List.any_eq_true] at hwq
  rcases hwq with h | ⟨m, hm, h⟩
  ·exact .inl (by simpa using h)
  ·right
   refine ⟨m, hm, ?_⟩
   cases hx : l[m]? with
   | none => rw [hx] at h; cases h
   | some x => rw [hx] at h; exact ⟨x, rfl, by simpa using h⟩
 -- the stretches
 let J : Array Bool → World → Prop := fun listed w => B w ∧ ((listed.getD p false = false ∧ listed.getD q false = false ∧ I0 w) ∨ (listed.getD p false = true ∧ listed.getD q false = false ∧ I1 w) ∨ (listed.getD p false = true ∧ listed.getD q false = true ∧ I2 w))
 have main : ∀ (fuel : Nat) (listed : Array Bool) (v : Nat → Value) (w : World), listed.size = l.length → (listed.toList.filter (· == false)).length ≤ fuel →
   J listed w → (∀ i, listed.getD i false = true → ∀ o, l[i]? = some o → ∀ j ∈ waitsOn o, listed.getD j false = true) → (∀ i, listed.getD i false = true → R i (v i) w) → wpAny P .any l.toArray Q fuel listed (putAll v l 0 a0) w := by
  have allDone : ∀ (listed : Array Bool), listed.size = l.length → Region.ready .any l.toArray listed = [] → ∀ i, i < l.length → listed.getD i false = true := by
   intro listed hl hr i
   induction i using Nat.strongRecOn with
   | _ i ih =>
    intro hi
    by_cases hd : listed.getD i false = true
    ·exact hd
    ·exfalso
     have : i ∈ Region.ready .any l.toArray listed := by
      rw [hwait]
      refine ⟨hi, ?_, fun o ho j hj => ih j (hback' i o ho j hj) (by have := hback' i o ho j hj; omega)⟩
      simp only [Array.getD_eq_getD_getElem?] at hd ⊢
      rw [Array.getElem?_eq_getElem (by omega)] at hd ⊢
      simpa using hd
     rw [hr] at this
     cases this
  have finish : ∀ (listed : Array Bool) (v : Nat → Value) (w : World), listed.size = l.length → Region.ready .any l.toArray listed = [] → J listed w → (∀ i, listed.getD i false = true → R i (v i) w) → Q .normal (putAll v l 0 a0) w := by
   intro listed v w hl hr hE hR
   have h2 := allDone listed hl hr q hql
   obtain ⟨hB, hE⟩ := hE
   rcases hE with ⟨-, h, -⟩ | ⟨-, h, -⟩ | ⟨-, -, h⟩
   ·rw [h2] at h; cases h
   ·rw [h2] at h; cases h
   ·exact fin v w hB h (allOf_mk l 0 fun i hi => by rw [Nat.zero_add]; exact hR i (allDone listed hl hr i hi))
  intro fuel
  induction fuel with
  | zero =>
   intro listed v w hl hf hE _ hR
   have hnil : Region.ready .any l.toArray listed = [] := by
    apply List.eq_nil_iff_forall_not_mem.2
    intro i hi
    rw [hwait] at hi
    obtain ⟨hil, hu, -⟩ := hi
    have he : listed.toList.filter (· == false) = [] := List.eq_nil_of_length_eq_zero (by omega)
    rw [List.filter_eq_nil_iff] at he
    have hil' : i < listed.size := by omega
    have := he listed[i] (by simp)
    rw [Array.getD_eq_getD_getElem?, Array.getElem?_eq_getElem hil'] at hu
    simp only [Option.getD_some] at hu
    simp [hu] at this
   exact ⟨hnil, finish listed v w hl hnil hE hR⟩
  | succ fuel ih =>
   intro listed v w hl hf hE hdp hR
   refine ⟨fun hr => finish listed v w hl hr hE hR, fun i hi => ?_⟩
   obtain ⟨hil, hu, hdep⟩ := (hwait i listed).1 hi
   have hiu : listed.getD i false = false := by
    rw [Array.getD_eq_getD_getElem?, Array.getElem?_eq_getElem (by omega)] at hu ⊢
    simpa using hu
   have ho : l[i]? = some l[i] := List.getElem?_eq_getElem hil
   have hst := allStepsPg_get l 0 steps i l[i] ho
   rw [Nat.zero_add] at hst
   obtain ⟨hB, hJ⟩ := hE
   have hst := hst v w hB (by
    rintro rfl
    rcases hJ with ⟨-, -, h⟩ | ⟨h, -⟩ | ⟨h, -⟩
    ·exact h
    ·rw [hiu] at h; cases h
    ·rw [hiu] at h; cases h) (by
    rintro rfl
    have hp' : listed.getD p false = true := by
     rcases hwq' _ ho with h | ⟨m, hm, x, hx, h⟩
     ·exact hdep _ ho p h
     ·exact hdp m (hdep _ ho m hm) x hx p h
    rcases hJ with ⟨h, -, -⟩ | ⟨-, -, h⟩ | ⟨-, h, -⟩
    ·rw [hp'] at h; cases h
    ·exact h
    ·rw [hiu] at h; cases h) (by
    intro hea
    have hlp : l[p]? = some l[p] := List.getElem?_eq_getElem hpl
    have hwi : i ∈ waitsOn l[p] := by
     unfold earlyOf at hea
     rw [List.getElem?_toArray, hlp] at hea
     simpa using hea
    rcases hJ with ⟨-, -, h⟩ | ⟨h, -, -⟩ | ⟨h, -, -⟩
    ·exact h
    ·rw [hdp p h _ hlp i hwi] at hiu; cases hiu
    ·rw [hdp p h _ hlp i hwi] at hiu; cases hiu) (deps_mk _ fun j hj => hR j (hdep _ ho j hj))
   have next : ∀ x w', J (listed.setIfInBounds i true) w' → (if i = p then Tp w w' else T w w') → R i x w' → wpAny P .any l.toArray Q fuel (listed.setIfInBounds i true) ((putAll v l 0 a0).put l[i].dst x) w' := by
    intro x w' hE' hT hx
    rw [putAll_put v x l 0 i a0 l[i] hnd ho]
    refine ih (listed.setIfInBounds i true) _ w' (by simpa using hl) ?_ hE' ?_ ?_
    ·have hil' : i < listed.size := by omega
     have hfalse : listed[i] = false := by
      rw [Array.getD_eq_getD_getElem?, Array.getElem?_eq_getElem hil'] at hu
      simpa using hu
     have e1 : listed.toList = listed.toList.take i ++ false :: listed.toList.drop (i + 1) := by
      rw [← hfalse]
      conv => lhs; rw [← List.take_append_drop i listed.toList]
      congr 1
      rw [List.drop_eq_getElem_cons (by simpa using hil')]
      simp
     have e2 : (listed.setIfInBounds i true).toList = listed.toList.take i ++ true :: listed.toList.drop (i + 1) := by
      rw [Array.toList_setIfInBounds, List.set_eq_take_append_cons_drop, if_pos (by simpa using hil')]
     rw [e1] at hf
     rw [e2]
     simp only [List.filter_append, List.filter_cons, List.length_append] at hf ⊢
     simp at hf ⊢
     omega
    ·intro c hps o hpo j hj
     have hset : ∀ j, listed.getD j false = true → (listed.setIfInBounds i true).getD j false = true := by
      intro j h
      rw [Array.getD_eq_getD_getElem?] at h ⊢
      rw [Array.getElem?_setIfInBounds]
      split
      ·split <;> simp_all
      ·exact h
     by_cases ep : i = c
     ·subst ep
      exact hset j (hdep o hpo j hj)
     ·rw [Array.getD_eq_getD_getElem?, Array.getElem?_setIfInBounds_ne ep, ← Array.getD_eq_getD_getElem?] at hps
      exact hset j (hdp c hps o hpo j hj)
    ·intro j hj
     by_cases e : j = 0 + i
     ·rw [if_pos e]
      have : j = i := by omega
      subst this
      exact hx
     ·rw [if_neg e]
      have hne : i ≠ j := by omega
      have hjR : R j (v j) w := hR j (by
       rw [Array.getD_eq_getD_getElem?, Array.getElem?_setIfInBounds_ne hne, ← Array.getD_eq_getD_getElem?] at hj
       exact hj)
      by_cases ep : i = p
      ·rw [if_pos ep] at hT
       exact stillp j _ w w' (by omega) hT hjR
      ·rw [if_neg ep] at hT
       exact still j _ w w' hT hjR
   have hself : (listed.setIfInBounds i true).getD i false = true := by
    rw [Array.getD_eq_getD_getElem?, Array.getElem?_setIfInBounds, if_pos rfl, if_pos (by omega)]; rfl
   have hother : ∀ j, i ≠ j → (listed.setIfInBounds i true).getD j false = listed.getD j false := by
    intro j hne
    rw [Array.getD_eq_getD_getElem?, Array.getElem?_setIfInBounds_ne hne, ← Array.getD_eq_getD_getElem?]
   have hJ1 : ∀ w', (if i = p then (B w' ∧ I1 w') ∧ Tp w w' else if i = q then (B w' ∧ I2 w') ∧ T w w' else Ext w w') → J (listed.setIfInBounds i true) w' ∧ (if i = p then Tp w w' else T w w') := by
    intro w' h
    by_cases e1 : i = p
    ·rw [if_pos e1] at h
     refine ⟨⟨h.1.1, .inr (.inl ⟨by rw [← e1]; exact hself, ?_, h.1.2⟩)⟩, by rw [if_pos e1]; exact h.2⟩
     rw [hother q (by omega)]
     rcases hJ with ⟨-, h, -⟩ | ⟨h, -, -⟩ | ⟨h, -, -⟩
     ·exact h
     ·rw [← e1, hiu] at h; cases h
     ·rw [← e1, hiu] at h; cases h
    ·rw [if_neg e1] at h
     by_cases e2 : i = q
     ·rw [if_pos e2] at h
      refine ⟨⟨h.1.1, .inr (.inr ⟨?_, by rw [← e2]; exact hself, h.1.2⟩)⟩, by rw [if_neg e1]; exact h.2⟩
      rw [hother p e1]
      subst e2
      rcases hwq' _ ho with h | ⟨m, hm, x, hx, h⟩
      ·exact hdep _ ho p h
      ·exact hdp m (hdep _ ho m hm) x hx p h
     ·rw [if_neg e2] at h
      obtain ⟨k0, k1, k2, k3, k4⟩ := keep w w' h
      refine ⟨⟨k1 hB, ?_⟩, by rw [if_neg e1]; exact k0⟩
      rw [hother p e1, hother q e2]
      rcases hJ with ⟨a, b, c⟩ | ⟨a, b, c⟩ | ⟨a, b, c⟩
      ·exact .inl ⟨a, b, k2 c⟩
      ·exact .inr (.inl ⟨a, b, k3 c⟩)
      ·exact .inr (.inr ⟨a, b, k4 c⟩)
   unfold wpOp
   simp only [List.getElem?_toArray, ho]
   split
   ·rename_i hw
    rw [if_pos hw] at hst
    refine .inl ?_
    have h1 := Oper.wp_mono (K' := wpAny P .any l.toArray Q fuel (listed.setIfInBounds i true)) (h := fun a' w' ⟨x, e, hE', hx⟩ => by rw [e]; exact next x w' (hJ1 w' hE').1 (hJ1 w' hE').2 hx) hst
    exact wp_post h1
   ·rename_i hw
    rw [if_neg hw] at hst
    obtain ⟨h1, h2, h3⟩ := hst
    exact next undef w (hJ1 w (by rw [if_neg h2, if_neg h3]; exact Below.refl _ _)).1 (hJ1 w (by rw [if_neg h2, if_neg h3]; exact Below.refl _ _)).2 h1
 refine wp_region_any hm ?_
 have hE : Ext w0 { w0 with drawn := w0.drawn + 1 } := ⟨rfl, rfl, rfl, Nat.le_refl _, fun _ _ => rfl⟩
 let v0 : Nat → Value := fun i => match l[i]? with | some o => (match o.dst with | some d => a0.tmps.getD d undef | none => undef) | none => undef
 have hself : putAll v0 l 0 a0 = a0 := putAll_self v0 l 0 a0 fun i o d ho hd => by
  have hdl : d < a0.tmps.size := by
   have := List.all_eq_true.1 hsz d (List.mem_filterMap.2 ⟨o, List.mem_of_getElem? ho, hd⟩)
   simpa using this
  simp only [v0, Nat.zero_add, ho, hd]
  rw [Array.getD_eq_getD_getElem?, Array.getElem?_eq_getElem hdl]
  rfl
 have hnone : ∀ i, (Array.replicate l.toArray.size false).getD i false = true → False := by
  intro i hi
  rw [Array.getD_eq_getD_getElem?, Array.getElem?_replicate] at hi
  split at hi <;> simp at hi
 have hno : ∀ i, (Array.replicate l.toArray.size false).getD i false = false := by
  intro i
  cases h : (Array.replicate l.toArray.size false).getD i false with
  | false => rfl
  | true => exact (hnone i h).elim
 obtain ⟨hB0, hI0⟩ := start _ hE
 have := main l.toArray.size (Array.replicate l.toArray.size false) v0 { w0 with drawn := w0.drawn + 1 } (by simp) (by simp) ⟨hB0, .inl ⟨hno p, hno q, hI0⟩⟩ (fun i h => (hnone i h).elim) (fun i hi => (hnone i hi).elim)
 rw [hself] at this
 exact this
theorem wp_drawn_pg {P : Program} {id : Nat} {ops : List Oper} (p q : Nat) (T Tp : World → World → Prop) (B I0 I1 I2 : World → Prop) {Q : Exit → Act → World → Prop} {a0 : Act} {w0 : World} (Rs : List SPred)
  (hm : P.follows .mixedOrders = true) (hok : regionOk ops a0.tmps.size = true) (hph : phaseOkG ops p q = true)
  (start : ∀ w, Ext w0 w → B w ∧ I0 w)
  (keep : ∀ w w', Ext w w' → T w w' ∧ (B w → B w') ∧ (I0 w → I0 w') ∧ (I1 w → I1 w') ∧ (I2 w → I2 w'))
  (steps : allStepsPg P ops.toArray a0 T Tp B I0 I1 I2 (knowing Rs) p q ops 0) (still : ∀ i v w w', T w w' → knowing Rs i v w → knowing Rs i v w') (stillp : ∀ i v w w', i ≠ p → Tp w w' → knowing Rs i v w → knowing Rs i v w')
  (fin : ∀ (v : Nat → Value) (w : World), B w → I2 w → allOf (knowing Rs) v w ops 0 → Q .normal (putAll v ops 0 a0) w) :
  (Code.region id ops.toArray true).wp P Q a0 w0 :=
 wp_region_pg (knowing Rs) p q T Tp B I0 I1 I2 hm hok hph start keep still stillp steps fin
end Go.Proofs.YtakebdeldndaaaaGreatDoor
