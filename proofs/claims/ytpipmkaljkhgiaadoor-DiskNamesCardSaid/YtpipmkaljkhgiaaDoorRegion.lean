/- A region whose order is drawn, by what each of its operations comes to: each is shown once, in whatever world stands there behind others, and what is known of a slot is kept while the world only grows. -/
import Derived.Test.YtpipmkaljkhgiaaDoorBase
import Derived.Orders
namespace Go.Proofs.YtpipmkaljkhgiaaDoor
open Go Go.RowKit

/-- The frame with the slots of a region's operations laid anew. -/
def putAll (v : Nat → Value) : List Oper → Nat → Act → Act
  | [], _, a => a
  | o :: l, i, a => putAll v l (i + 1) (a.put o.dst (v i))
/-- On which operations one waits. -/
def waitsOn (o : Oper) : List Nat := (o.after.toList.filter (Region.binds .any ·)).map (·.on)
/-- Each waits on earlier ones only; each writes a slot of its own. -/
def regionOk (ops : List Oper) (size : Nat) : Bool :=
  (ops.zipIdx.all fun (o, i) => (waitsOn o).all fun j => decide (j < i)) &&
  decide ((ops.filterMap (·.dst)).Nodup) && (ops.filterMap (·.dst)).all fun d => decide (d < size)
def deps (R : Nat → Value → World → Prop) (v : Nat → Value) (w : World) : List Nat → Prop
  | [] => True
  | j :: l => R j (v j) w ∧ deps R v w l
def allOf (R : Nat → Value → World → Prop) (v : Nat → Value) (w : World) : List Oper → Nat → Prop
  | [], _ => True
  | _ :: l, i => R i (v i) w ∧ allOf R v w l (i + 1)
theorem Ext.trans' {a b c : World} (h : Ext a b) (k : Ext b c) : Ext a c := below_all h k

/-- What is asked of an operation. -/
def stepOk (P : Program) (ops : Array Oper) (w0 : World) (a0 : Act) (R : Nat → Value → World → Prop) (i : Nat) (o : Oper) : Prop :=
  ∀ (v : Nat → Value) (w : World), Ext w0 w → deps R v w (waitsOn o) →
    if Region.wanted o (yielded ops (putAll v ops.toList 0 a0).tmps) then o.wp P (putAll v ops.toList 0 a0) w (fun a' w' => ∃ x, a' = (putAll v ops.toList 0 a0).put o.dst x ∧ Ext w w' ∧ R i x w') (fun _ _ _ => False)
    else R i undef w
def allSteps (P : Program) (ops : Array Oper) (w0 : World) (a0 : Act) (R : Nat → Value → World → Prop) : List Oper → Nat → Prop
  | [], _ => True
  | o :: l, i => stepOk P ops w0 a0 R i o ∧ allSteps P ops w0 a0 R l (i + 1)

theorem allSteps_get {P : Program} {ops : Array Oper} {w0 : World} {a0 : Act} {R : Nat → Value → World → Prop} : ∀ (l : List Oper) (k : Nat), allSteps P ops w0 a0 R l k → ∀ i o, l[i]? = some o → stepOk P ops w0 a0 R (k + i) o
  | [], _, _, i, o, h => by simp at h
  | x :: l, k, ⟨h0, h1⟩, i, o, h => by
    cases i with
    | zero => simp at h; subst h; exact h0
    | succ i =>
      have := allSteps_get l (k + 1) h1 i o (by simpa using h)
      rwa [show k + (i + 1) = k + 1 + i by omega]
theorem allOf_mk {R : Nat → Value → World → Prop} {v : Nat → Value} {w : World} : ∀ (l : List Oper) (k : Nat), (∀ i, i < l.length → R (k + i) (v (k + i)) w) → allOf R v w l k
  | [], _, _ => trivial
  | x :: l, k, h => ⟨by simpa using h 0 (by simp), allOf_mk l (k + 1) fun i hi => by
      have := h (i + 1) (by simpa using hi)
      rwa [show k + 1 + i = k + (i + 1) by omega]⟩
theorem deps_mk {R : Nat → Value → World → Prop} {v : Nat → Value} {w : World} : ∀ (l : List Nat), (∀ j ∈ l, R j (v j) w) → deps R v w l
  | [], _ => trivial
  | x :: l, h => ⟨h x (by simp), deps_mk l fun j hj => h j (by simp [hj])⟩

theorem putAll_defers (v : Nat → Value) : ∀ (l : List Oper) (k : Nat) (a : Act), (putAll v l k a).defers = a.defers
  | [], _, _ => rfl
  | o :: l, k, a => by rw [putAll, putAll_defers v l]; cases o.dst <;> rfl
theorem put_size (a : Act) (d : Option Tmp) (x : Value) : (a.put d x).tmps.size = a.tmps.size := by cases d <;> simp [Act.put]
theorem putAll_size (v : Nat → Value) : ∀ (l : List Oper) (k : Nat) (a : Act), (putAll v l k a).tmps.size = a.tmps.size
  | [], _, _ => rfl
  | o :: l, k, a => by rw [putAll, putAll_size v l, put_size]
/-- Nothing is laid anew where each slot gets what it holds. -/
theorem putAll_self (v : Nat → Value) : ∀ (l : List Oper) (k : Nat) (a : Act), (∀ i o d, l[i]? = some o → o.dst = some d → a.tmps[d]? = some (v (k + i))) → putAll v l k a = a
  | [], _, _, _ => rfl
  | o :: l, k, a, h => by
    have h0 : a.put o.dst (v k) = a := by
      cases hd : o.dst with
      | none => rfl
      | some d =>
        have := h 0 o d rfl hd
        obtain ⟨t, df⟩ := a
        simp only [Act.put, Act.mk.injEq, and_true]
        apply Array.ext_getElem?
        intro j
        rw [Array.getElem?_setIfInBounds]
        by_cases e : d = j
        · subst e; simp only [Nat.add_zero] at this; rw [this]; simp; exact (Array.getElem?_eq_some_iff.1 this).1
        · simp [e]
    rw [putAll, h0]
    exact putAll_self v l (k + 1) a fun i o' d ho hd => by
      have := h (i + 1) o' d (by simpa using ho) hd
      rwa [show k + 1 + i = k + (i + 1) by omega]
theorem put_comm (a : Act) (x y : Option Tmp) (u v : Value) (h : ∀ d, x = some d → y ≠ some d) : (a.put x u).put y v = (a.put y v).put x u := Act.put_comm a u v h
theorem put_put (a : Act) (x : Option Tmp) (u v : Value) : (a.put x u).put x v = a.put x v := by
  cases x with
  | none => rfl
  | some d => simp [Act.put]
/-- A slot written behind all is a slot laid otherwise. -/
theorem putAll_put (v : Nat → Value) (x : Value) : ∀ (l : List Oper) (k i : Nat) (a : Act) (o : Oper), (l.filterMap (·.dst)).Nodup → l[i]? = some o →
    (putAll v l k a).put o.dst x = putAll (fun j => if j = k + i then x else v j) l k a
  | [], _, i, _, o, _, h => by simp at h
  | p :: l, k, 0, a, o, hn, h => by
    simp only [List.getElem?_cons_zero, Option.some.injEq] at h
    subst h
    simp only [putAll, Nat.add_zero, if_true]
    have hn' : ∀ q ∈ l, ∀ d, p.dst = some d → q.dst ≠ some d := by
      intro q hq d hd hq'
      rw [List.filterMap_cons, hd] at hn
      simp only [List.nodup_cons] at hn
      exact hn.1 (List.mem_filterMap.2 ⟨q, hq, hq'⟩)
    have key : ∀ (l : List Oper) (k' : Nat) (a : Act), k < k' → (∀ q ∈ l, ∀ d, p.dst = some d → q.dst ≠ some d) → (putAll v l k' a).put p.dst x = putAll (fun j => if j = k then x else v j) l k' (a.put p.dst x) := by
      intro l
      induction l with
      | nil => intro k' a _ _; rfl
      | cons q l ih =>
        intro k' a hk hq
        simp only [putAll]
        rw [ih (k' + 1) _ (by omega) (fun r hr => hq r (List.mem_cons_of_mem _ hr)), if_neg (by omega)]
        congr 1
        exact (put_comm a p.dst q.dst x (v k') (fun d hd => hq q (by simp) d hd)).symm
    rw [key l (k + 1) _ (by omega) hn', put_put]
  | p :: l, k, i + 1, a, o, hn, h => by
    simp only [putAll]
    rw [putAll_put v x l (k + 1) i _ o (by
      rw [List.filterMap_cons] at hn
      cases hp : p.dst with
      | none => rw [hp] at hn; exact hn
      | some d => rw [hp] at hn; exact (List.nodup_cons.1 hn).2) (by simpa using h), if_neg (by omega)]
    rw [show k + 1 + i = k + (i + 1) by omega]

/-- What never ends otherwise serves whatever is asked of other ends. -/
theorem wp_post {P : Program} {o : Oper} {a : Act} {w : World} {K : Act → World → Prop} {Q : Exit → Act → World → Prop} (h : o.wp P a w K (fun _ _ _ => False)) : o.wp P a w K Q := by
  unfold Oper.wp at *
  generalize (execOp a.eval o).run P w = r at *
  cases r with
  | ok n w' =>
    cases n <;> simp only [Oper.upon] at h ⊢ <;>
      first
        | exact h
        | exact Calls.mono h (fun e w'' he => by cases e <;> first | exact he | exact he.elim | (obtain ⟨_, _, he⟩ := he; exact he.elim))
  | halt x w' => cases x <;> simp only [Oper.upon] at h ⊢

theorem wp_region_drawn {P : Program} {id : Nat} {l : List Oper} {Q : Exit → Act → World → Prop} {a0 : Act} {w0 : World} (R : Nat → Value → World → Prop)
    (hm : P.follows .mixedOrders = true) (hok : regionOk l a0.tmps.size = true)
    (stab : ∀ i v w w', R i v w → Ext w w' → R i v w')
    (steps : allSteps P l.toArray w0 a0 R l 0)
    (fin : ∀ (v : Nat → Value) (w : World), Ext w0 w → allOf R v w l 0 → Q .normal (putAll v l 0 a0) w) :
    (Code.region id l.toArray true).wp P Q a0 w0 := by
  simp only [regionOk, Bool.and_eq_true, decide_eq_true_eq] at hok
  obtain ⟨⟨hback, hnd⟩, hsz⟩ := hok
  have hback' : ∀ i o, l[i]? = some o → ∀ j ∈ waitsOn o, j < i := by
    intro i o ho j hj
    have h1 := List.all_eq_true.1 hback (o, i) (by
      rw [List.mem_zipIdx_iff_getElem?]; exact ho)
    have h2 := List.all_eq_true.1 h1 j hj
    simpa using h2
  have hwait : ∀ i (listed : Array Bool), i ∈ Region.ready .any l.toArray listed ↔ (i < l.length ∧ listed.getD i true = false ∧ ∀ o, l[i]? = some o → ∀ j ∈ waitsOn o, listed.getD j false = true) := by
    intro i listed
    unfold Region.ready
    simp only [List.mem_filter, List.mem_range, List.size_toArray, Bool.and_eq_true, Bool.not_eq_true']
    refine and_congr_right fun hi => and_congr_right fun _ => ?_
    simp only [List.getElem?_toArray, List.getElem?_eq_getElem hi, Option.map_some, Option.getD_some, Option.some.injEq]
    constructor
    · intro h o ho j hj
      subst ho
      simp only [waitsOn, List.mem_map, List.mem_filter] at hj
      obtain ⟨e, ⟨he, hb⟩, rfl⟩ := hj
      have := Array.all_eq_true_iff_forall_mem.1 h e (by simpa using he)
      simpa [hb] using this
    · intro h
      rw [Array.all_eq_true_iff_forall_mem]
      intro e he
      by_cases hb : Region.binds .any e = true
      · have := h _ rfl e.on (by
          simp only [waitsOn, List.mem_map, List.mem_filter]
          exact ⟨e, ⟨by simpa using he, hb⟩, rfl⟩)
        simp [hb, this]
      · simp [hb]
  -- the invariant
  have main : ∀ (fuel : Nat) (listed : Array Bool) (v : Nat → Value) (w : World), listed.size = l.length → (listed.toList.filter (· == false)).length ≤ fuel →
      Ext w0 w → (∀ i, listed.getD i false = true → R i (v i) w) → wpAny P .any l.toArray Q fuel listed (putAll v l 0 a0) w := by
    have allDone : ∀ (listed : Array Bool), listed.size = l.length → Region.ready .any l.toArray listed = [] → ∀ i, i < l.length → listed.getD i false = true := by
      intro listed hl hr i
      induction i using Nat.strongRecOn with
      | _ i ih =>
        intro hi
        by_cases hd : listed.getD i false = true
        · exact hd
        · exfalso
          have : i ∈ Region.ready .any l.toArray listed := by
            rw [hwait]
            refine ⟨hi, ?_, fun o ho j hj => ih j (hback' i o ho j hj) (by have := hback' i o ho j hj; omega)⟩
            simp only [Array.getD_eq_getD_getElem?] at hd ⊢
            rw [Array.getElem?_eq_getElem (by omega)] at hd ⊢
            simpa using hd
          rw [hr] at this
          cases this
    have finish : ∀ (listed : Array Bool) (v : Nat → Value) (w : World), listed.size = l.length → Region.ready .any l.toArray listed = [] → Ext w0 w → (∀ i, listed.getD i false = true → R i (v i) w) → Q .normal (putAll v l 0 a0) w :=
      fun listed v w hl hr hE hR => fin v w hE (allOf_mk l 0 fun i hi => by
        rw [Nat.zero_add]; exact hR i (allDone listed hl hr i hi))
    intro fuel
    induction fuel with
    | zero =>
      intro listed v w hl hf hE hR
      have hnil : Region.ready .any l.toArray listed = [] := by
        apply List.eq_nil_iff_forall_not_mem.2
        intro i hi
        rw [hwait] at hi
        obtain ⟨hil, hu, -⟩ := hi
        have he : listed.toList.filter (· == false) = [] := List.eq_nil_of_length_eq_zero (by omega)
        rw [List.filter_eq_nil_iff] at he
        have hil' : i < listed.size := by omega
        have := he listed[i] (by simp)
        rw [Array.getD_eq_getD_getElem?, Array.getElem?_eq_getElem hil'] at hu
        simp only [Option.getD_some] at hu
        simp [hu] at this
      exact ⟨hnil, finish listed v w hl hnil hE hR⟩
    | succ fuel ih =>
      intro listed v w hl hf hE hR
      refine ⟨fun hr => finish listed v w hl hr hE hR, fun i hi => ?_⟩
      obtain ⟨hil, hu, hdep⟩ := (hwait i listed).1 hi
      have ho : l[i]? = some l[i] := List.getElem?_eq_getElem hil
      have hst := allSteps_get l 0 steps i l[i] ho
      rw [Nat.zero_add] at hst
      have hst := hst v w hE (deps_mk _ fun j hj => hR j (hdep _ ho j hj))
      have next : ∀ x w', Ext w w' → R i x w' → wpAny P .any l.toArray Q fuel (listed.setIfInBounds i true) ((putAll v l 0 a0).put l[i].dst x) w' := by
        intro x w' hE' hx
        rw [putAll_put v x l 0 i a0 l[i] hnd ho]
        refine ih (listed.setIfInBounds i true) _ w' (by simpa using hl) ?_ (Ext.trans' hE hE') ?_
        · -- one fewer
          have hil' : i < listed.size := by omega
          have hfalse : listed[i] = false := by
            rw [Array.getD_eq_getD_getElem?, Array.getElem?_eq_getElem hil'] at hu
            simpa using hu
          have e1 : listed.toList = listed.toList.take i ++ false :: listed.toList.drop (i + 1) := by
            rw [← hfalse]
            conv => lhs; rw [← List.take_append_drop i listed.toList]
            congr 1
            rw [List.drop_eq_getElem_cons (by simpa using hil')]
            simp
          have e2 : (listed.setIfInBounds i true).toList = listed.toList.take i ++ true :: listed.toList.drop (i + 1) := by
            rw [Array.toList_setIfInBounds, List.set_eq_take_append_cons_drop, if_pos (by simpa using hil')]
          rw [e1] at hf
          rw [e2]
          simp only [List.filter_append, List.filter_cons, List.length_append] at hf ⊢
          simp at hf ⊢
          omega
        · intro j hj
          by_cases e : j = 0 + i
          · rw [if_pos e]
            have : j = i := by omega
            subst this
            exact hx
          · rw [if_neg e]
            have hne : i ≠ j := by omega
            refine stab j _ w w' (hR j ?_) hE'
            rw [Array.getD_eq_getD_getElem?, Array.getElem?_setIfInBounds_ne hne, ← Array.getD_eq_getD_getElem?] at hj
            exact hj
      unfold wpOp
      simp only [List.getElem?_toArray, ho]
      split
      · rename_i hw
        rw [if_pos hw] at hst
        refine .inl ?_
        have h1 := Oper.wp_mono (K' := wpAny P .any l.toArray Q fuel (listed.setIfInBounds i true)) (h := fun a' w' ⟨x, e, hE', hx⟩ => by rw [e]; exact next x w' hE' hx) hst
        exact wp_post h1
      · rename_i hw
        rw [if_neg hw] at hst
        exact next undef w (Below.refl _ _) hst
  refine wp_region_any hm ?_
  have hE : Ext w0 { w0 with drawn := w0.drawn + 1 } := ⟨rfl, rfl, rfl, Nat.le_refl _, fun _ _ => rfl⟩
  let v0 : Nat → Value := fun i => match l[i]? with | some o => (match o.dst with | some d => a0.tmps.getD d undef | none => undef) | none => undef
  have hself : putAll v0 l 0 a0 = a0 := putAll_self v0 l 0 a0 fun i o d ho hd => by
    have hdl : d < a0.tmps.size := by
      have := List.all_eq_true.1 hsz d (List.mem_filterMap.2 ⟨o, List.mem_of_getElem? ho, hd⟩)
      simpa using this
    simp only [v0, Nat.zero_add, ho, hd]
    rw [Array.getD_eq_getD_getElem?, Array.getElem?_eq_getElem hdl]
    rfl
  have := main l.toArray.size (Array.replicate l.toArray.size false) v0 { w0 with drawn := w0.drawn + 1 } (by simp) (by simp) hE (by
    intro i hi
    exfalso
    rw [Array.getD_eq_getD_getElem?, Array.getElem?_replicate] at hi
    split at hi <;> simp at hi)
  rw [hself] at this
  exact this

/-- What is asked of an operation, the frame laid over some of a region's operations. -/
def stepOk' (P : Program) (ops : Array Oper) (w0 : World) (a0 : Act) (R : Nat → Value → World → Prop) (base : List Oper) (i : Nat) (o : Oper) : Prop :=
  ∀ (v : Nat → Value) (w : World), Ext w0 w → deps R v w (waitsOn o) →
    if Region.wanted o (yielded ops (putAll v base 0 a0).tmps) then o.wp P (putAll v base 0 a0) w (fun a' w' => ∃ x, a' = (putAll v base 0 a0).put o.dst x ∧ Ext w w' ∧ R i x w') (fun _ _ _ => False)
    else R i undef w
def allSteps' (P : Program) (ops : Array Oper) (w0 : World) (a0 : Act) (R : Nat → Value → World → Prop) (base : List Oper) : List Oper → Nat → Prop
  | [], _ => True
  | o :: l, i => stepOk' P ops w0 a0 R base i o ∧ allSteps' P ops w0 a0 R base l (i + 1)
theorem allSteps'_get {P : Program} {ops : Array Oper} {w0 : World} {a0 : Act} {R : Nat → Value → World → Prop} {base : List Oper} : ∀ (l : List Oper) (k : Nat), allSteps' P ops w0 a0 R base l k → ∀ i o, l[i]? = some o → stepOk' P ops w0 a0 R base (k + i) o
  | [], _, _, i, o, h => by simp at h
  | x :: l, k, ⟨h0, h1⟩, i, o, h => by
    cases i with
    | zero => simp at h; subst h; exact h0
    | succ i =>
      have := allSteps'_get l (k + 1) h1 i o (by simpa using h)
      rwa [show k + (i + 1) = k + 1 + i by omega]
/-! ### The same, the last operations left to the walk: the first of them waits, through others, on all ahead of it, each further one on the one ahead of it -/
def covered (l : List Oper) (p : Nat) : Bool :=
  ((List.range p).all fun i => (l.zipIdx.any fun (o, j) => decide (i < j) && decide (j ≤ p) && (waitsOn o).contains i)) &&
  (l.zipIdx.all fun (o, j) => !decide (p < j) || (waitsOn o).contains (j - 1))

theorem wpAny_chain {P : Program} {Q : Exit → Act → World → Prop} {ops : List Oper} (hwait : ∀ i (listed : Array Bool), i ∈ Region.ready .any ops.toArray listed ↔ (i < ops.length ∧ listed.getD i true = false ∧ ∀ o, ops[i]? = some o → ∀ j ∈ waitsOn o, listed.getD j false = true))
    (hback : ∀ i o, ops[i]? = some o → ∀ j ∈ waitsOn o, j < i) (p : Nat) (hchain : ∀ i o, ops[i]? = some o → p < i → i - 1 ∈ waitsOn o) :
    ∀ (suf : List Oper) (k : Nat), ops.drop k = suf → k ≤ ops.length → p ≤ k → ∀ (listed : Array Bool), listed.size = ops.length → (∀ i, i < ops.length → listed.getD i false = decide (i < k)) →
    ∀ (fuel : Nat), suf.length ≤ fuel → ∀ a w, wpList P ops.toArray Q suf a w → wpAny P .any ops.toArray Q fuel listed a w := by
  intro suf
  induction suf with
  | nil =>
    intro k hd hk _ listed hl hli fuel _ a w h
    have hkl : ops.length ≤ k := by
      have := congrArg List.length hd
      simp at this
      omega
    refine wpAny_done (List.eq_nil_iff_forall_not_mem.2 fun i hi => ?_) h fuel
    rw [hwait] at hi
    have h1 := hli i hi.1
    have h2 := hi.2.1
    have hil := hi.1
    rw [Array.getD_eq_getD_getElem?, Array.getElem?_eq_getElem (by omega)] at h1 h2
    simp at h1 h2
    rw [h1] at h2
    simp at h2
    omega
  | cons o suf ih =>
    intro k hd hk hpk listed hl hli fuel hf a w h
    have hkl : k < ops.length := by
      have := congrArg List.length hd
      simp at this
      omega
    have ho : ops[k]? = some o := by
      have := congrArg (fun l : List Oper => l[0]?) hd
      simpa using this
    cases fuel with
    | zero => simp at hf
    | succ fuel =>
      have hfalse : ∀ i, i < ops.length → k ≤ i → listed.getD i false = false := fun i hi hki => by rw [hli i hi]; simp; omega
      have hready : ∀ i, i ∈ Region.ready .any ops.toArray listed ↔ i = k := by
        intro i
        rw [hwait]
        constructor
        · rintro ⟨hi, hu, hdep⟩
          have hki : k ≤ i := by
            rcases Nat.lt_or_ge i k with h' | h'
            · have := hli i hi
              rw [Array.getD_eq_getD_getElem?, Array.getElem?_eq_getElem (by omega)] at this hu
              simp at this hu
              rw [hu] at this
              simp at this
              omega
            · exact h'
          rcases Nat.lt_or_ge k i with h' | h'
          · have hoi : ops[i]? = some ops[i] := List.getElem?_eq_getElem hi
            have := hdep _ hoi (i - 1) (hchain i _ hoi (by omega))
            rw [hfalse (i - 1) (by omega) (by omega)] at this
            cases this
          · omega
        · rintro rfl
          refine ⟨hkl, ?_, fun o' ho' j hj => ?_⟩
          · have := hfalse i hkl (Nat.le_refl _)
            rw [Array.getD_eq_getD_getElem?, Array.getElem?_eq_getElem (by omega)] at this ⊢
            simpa using this
          · have hji := hback i o' ho' j hj
            rw [hli j (by omega)]
            simpa using hji
      refine ⟨fun hr => ?_, fun i hi => ?_⟩
      · have := (hready k).2 rfl
        rw [hr] at this
        cases this
      · obtain rfl := (hready i).1 hi
        have next : ∀ a w, wpList P ops.toArray Q suf a w → wpAny P .any ops.toArray Q fuel (listed.setIfInBounds i true) a w := by
          intro a w h
          refine ih (i + 1) ?_ (by omega) (by omega) _ (by simpa using hl) (fun j hj => ?_) fuel (by simpa using hf) a w h
          · have := congrArg (List.drop 1) hd
            simpa [List.drop_drop] using this
          · rw [Array.getD_eq_getD_getElem?, Array.getElem?_setIfInBounds]
            by_cases e : i = j
            · subst e; rw [if_pos rfl, if_pos (by omega)]; simp
            · rw [if_neg e, ← Array.getD_eq_getD_getElem?, hli j hj]
              simp; omega
        unfold wpOp
        simp only [List.getElem?_toArray, ho]
        unfold wpList at h
        split
        · rename_i hw
          rw [if_pos hw] at h
          exact h.imp (fun h => Oper.wp_mono (fun a w h => next a w h) h) (fun h => h)
        · rename_i hw
          rw [if_neg hw] at h
          exact next _ _ h

theorem wp_region_drawn_last {P : Program} {id : Nat} {l : List Oper} {last : Oper} {tail : List Oper} {Q : Exit → Act → World → Prop} {a0 : Act} {w0 : World} (R : Nat → Value → World → Prop)
    (hm : P.follows .mixedOrders = true) (hok : regionOk (l ++ last :: tail) a0.tmps.size = true) (hcov : covered (l ++ last :: tail) l.length = true)
    (stab : ∀ i v w w', R i v w → Ext w w' → R i v w')
    (steps : allSteps' P (l ++ last :: tail).toArray w0 a0 R l l 0)
    (fin : ∀ (v : Nat → Value) (w : World), Ext w0 w → allOf R v w l 0 → wpList P (l ++ last :: tail).toArray Q (last :: tail) (putAll v l 0 a0) w) :
    (Code.region id (l ++ last :: tail).toArray true).wp P Q a0 w0 := by
  simp only [regionOk, Bool.and_eq_true, decide_eq_true_eq] at hok
  obtain ⟨⟨hback, hnd⟩, hsz⟩ := hok
  have hll : (l ++ last :: tail).length = l.length + 1 + tail.length := by simp; omega
  have hback' : ∀ i o, (l ++ last :: tail)[i]? = some o → ∀ j ∈ waitsOn o, j < i := by
    intro i o ho j hj
    have h1 := List.all_eq_true.1 hback (o, i) (by
      rw [List.mem_zipIdx_iff_getElem?]; exact ho)
    have h2 := List.all_eq_true.1 h1 j hj
    simpa using h2
  simp only [covered, Bool.and_eq_true] at hcov
  obtain ⟨hcov1, hcov2⟩ := hcov
  have hcov' : ∀ i, i < l.length → ∃ j o, i < j ∧ j ≤ l.length ∧ (l ++ last :: tail)[j]? = some o ∧ i ∈ waitsOn o := by
    intro i hi
    have h1 := List.all_eq_true.1 hcov1 i (by simp; exact hi)
    obtain ⟨⟨o, j⟩, hmem, h2⟩ := List.any_eq_true.1 h1
    rw [List.mem_zipIdx_iff_getElem?] at hmem
    simp only [Bool.and_eq_true, decide_eq_true_eq, List.contains_iff_mem] at h2
    exact ⟨j, o, h2.1.1, h2.1.2, hmem, h2.2⟩
  have hchain : ∀ i o, (l ++ last :: tail)[i]? = some o → l.length < i → i - 1 ∈ waitsOn o := by
    intro i o ho hi
    have h1 := List.all_eq_true.1 hcov2 (o, i) (by rw [List.mem_zipIdx_iff_getElem?]; exact ho)
    simpa [hi] using h1
  have hwait : ∀ i (listed : Array Bool), i ∈ Region.ready .any (l ++ last :: tail).toArray listed ↔ (i < (l ++ last :: tail).length ∧ listed.getD i true = false ∧ ∀ o, (l ++ last :: tail)[i]? = some o → ∀ j ∈ waitsOn o, listed.getD j false = true) := by
    intro i listed
    unfold Region.ready
    simp only [List.mem_filter, List.mem_range, List.size_toArray, Bool.and_eq_true, Bool.not_eq_true']
    refine and_congr_right fun hi => and_congr_right fun _ => ?_
    simp only [List.getElem?_toArray, List.getElem?_eq_getElem hi, Option.map_some, Option.getD_some, Option.some.injEq]
    constructor
    · intro h o ho j hj
      subst ho
      simp only [waitsOn, List.mem_map, List.mem_filter] at hj
      obtain ⟨e, ⟨he, hb⟩, rfl⟩ := hj
      have := Array.all_eq_true_iff_forall_mem.1 h e (by simpa using he)
      simpa [hb] using this
    · intro h
      rw [Array.all_eq_true_iff_forall_mem]
      intro e he
      by_cases hb : Region.binds .any e = true
      · have := h _ rfl e.on (by
          simp only [waitsOn, List.mem_map, List.mem_filter]
          exact ⟨e, ⟨by simpa using he, hb⟩, rfl⟩)
        simp [hb, this]
      · simp [hb]
  have hnd1 : (l.filterMap (·.dst)).Nodup := by
    rw [List.filterMap_append] at hnd
    exact (List.nodup_append.1 hnd).1
  have main : ∀ (fuel : Nat) (listed : Array Bool) (v : Nat → Value) (w : World), listed.size = l.length + 1 + tail.length → (listed.toList.filter (· == false)).length ≤ fuel →
      (∀ k, l.length ≤ k → k < l.length + 1 + tail.length → listed.getD k true = false) → (∀ i o, listed.getD i false = true → (l ++ last :: tail)[i]? = some o → ∀ j ∈ waitsOn o, listed.getD j false = true) →
      Ext w0 w → (∀ i, listed.getD i false = true → R i (v i) w) → wpAny P .any (l ++ last :: tail).toArray Q fuel listed (putAll v l 0 a0) w := by
    intro fuel
    induction fuel with
    | zero =>
      intro listed v w hl hf hlast _ _ _
      exfalso
      have he : listed.toList.filter (· == false) = [] := List.eq_nil_of_length_eq_zero (by omega)
      rw [List.filter_eq_nil_iff] at he
      have hil' : l.length < listed.size := by omega
      have := he listed[l.length] (by simp)
      have hlast := hlast l.length (Nat.le_refl _) (by omega)
      rw [Array.getD_eq_getD_getElem?, Array.getElem?_eq_getElem hil'] at hlast
      simp only [Option.getD_some] at hlast
      simp [hlast] at this
    | succ fuel ih =>
      intro listed v w hl hf hlast hdown hE hR
      have hnot : Region.ready .any (l ++ last :: tail).toArray listed ≠ [] := by
        -- the least that is not listed is ready
        intro hnil
        have all : ∀ i, i < l.length + 1 + tail.length → listed.getD i false = true := by
          intro i
          induction i using Nat.strongRecOn with
          | _ i ih2 =>
            intro hi
            by_cases hd : listed.getD i false = true
            · exact hd
            · exfalso
              have : i ∈ Region.ready .any (l ++ last :: tail).toArray listed := by
                rw [hwait]
                refine ⟨by omega, ?_, fun o ho j hj => ih2 j (hback' i o ho j hj) (by have := hback' i o ho j hj; omega)⟩
                simp only [Array.getD_eq_getD_getElem?] at hd ⊢
                rw [Array.getElem?_eq_getElem (by omega)] at hd ⊢
                simpa using hd
              rw [hnil] at this
              cases this
        have h1 := all l.length (by omega)
        have hlast := hlast l.length (Nat.le_refl _) (by omega)
        rw [Array.getD_eq_getD_getElem?, Array.getElem?_eq_getElem (by omega)] at h1 hlast
        simp at h1 hlast
        rw [h1] at hlast
        cases hlast
      refine ⟨fun hr => absurd hr hnot, fun i hi => ?_⟩
      obtain ⟨hil, hu, hdep⟩ := (hwait i listed).1 hi
      have ho : (l ++ last :: tail)[i]? = some (l ++ last :: tail)[i] := List.getElem?_eq_getElem hil
      by_cases hi1 : i < l.length
      · have ho1 : l[i]? = some (l ++ last :: tail)[i] := by rw [← ho, List.getElem?_append_left hi1]
        have hst := allSteps'_get l 0 steps i _ ho1
        rw [Nat.zero_add] at hst
        have hst := hst v w hE (deps_mk _ fun j hj => hR j (hdep _ ho j hj))
        have next : ∀ x w', Ext w w' → R i x w' → wpAny P .any (l ++ last :: tail).toArray Q fuel (listed.setIfInBounds i true) ((putAll v l 0 a0).put (l ++ last :: tail)[i].dst x) w' := by
          intro x w' hE' hx
          rw [putAll_put v x l 0 i a0 _ hnd1 ho1]
          refine ih (listed.setIfInBounds i true) _ w' (by simpa using hl) ?_ ?_ ?_ (Ext.trans' hE hE') ?_
          · have hil' : i < listed.size := by omega
            have hfalse : listed[i] = false := by
              rw [Array.getD_eq_getD_getElem?, Array.getElem?_eq_getElem hil'] at hu
              simpa using hu
            have e1 : listed.toList = listed.toList.take i ++ false :: listed.toList.drop (i + 1) := by
              rw [← hfalse]
              conv => lhs; rw [← List.take_append_drop i listed.toList]
              congr 1
              rw [List.drop_eq_getElem_cons (by simpa using hil')]
              simp
            have e2 : (listed.setIfInBounds i true).toList = listed.toList.take i ++ true :: listed.toList.drop (i + 1) := by
              rw [Array.toList_setIfInBounds, List.set_eq_take_append_cons_drop, if_pos (by simpa using hil')]
            rw [e1] at hf
            rw [e2]
            simp only [List.filter_append, List.filter_cons, List.length_append] at hf ⊢
            simp at hf ⊢
            omega
          · intro k hk1 hk2
            rw [Array.getD_eq_getD_getElem?, Array.getElem?_setIfInBounds_ne (by omega), ← Array.getD_eq_getD_getElem?]
            exact hlast k hk1 hk2
          · intro k o hk hko j hj
            have hset : ∀ j, listed.getD j false = true → (listed.setIfInBounds i true).getD j false = true := by
              intro j h
              rw [Array.getD_eq_getD_getElem?] at h ⊢
              rw [Array.getElem?_setIfInBounds]
              split
              · split <;> simp_all
              · exact h
            by_cases e : k = i
            · subst e
              have : o = (l ++ last :: tail)[k] := by rw [ho] at hko; exact (Option.some.inj hko).symm
              subst this
              exact hset j (hdep _ ho j hj)
            · refine hset j (hdown k o ?_ hko j hj)
              rw [Array.getD_eq_getD_getElem?, Array.getElem?_setIfInBounds_ne (Ne.symm e), ← Array.getD_eq_getD_getElem?] at hk
              exact hk
          · intro j hj
            by_cases e : j = 0 + i
            · rw [if_pos e]
              have : j = i := by omega
              subst this
              exact hx
            · rw [if_neg e]
              have hne : i ≠ j := by omega
              refine stab j _ w w' (hR j ?_) hE'
              rw [Array.getD_eq_getD_getElem?, Array.getElem?_setIfInBounds_ne hne, ← Array.getD_eq_getD_getElem?] at hj
              exact hj
        unfold wpOp
        simp only [List.getElem?_toArray, ho]
        split
        · rename_i hw
          rw [if_pos hw] at hst
          exact .inl (wp_post (Oper.wp_mono (K' := wpAny P .any (l ++ last :: tail).toArray Q fuel (listed.setIfInBounds i true)) (h := fun a' w' ⟨x, e, hE', hx⟩ => by rw [e]; exact next x w' hE' hx) hst))
        · rename_i hw
          rw [if_neg hw] at hst
          exact next undef w (Below.refl _ _) hst
      · -- the first of the last: all ahead of it are there, none of the others
        have hie : i = l.length := by
          rcases Nat.lt_or_ge l.length i with h' | h'
          · exfalso
            have := hdep _ ho (i - 1) (hchain i _ ho h')
            have h2 := hlast (i - 1) (by omega) (by omega)
            rw [Array.getD_eq_getD_getElem?, Array.getElem?_eq_getElem (by omega)] at this h2
            simp at this h2
            rw [h2] at this
            cases this
          · omega
        subst hie
        have hall : ∀ k, k ≤ l.length → ∀ i, i < l.length → l.length - i ≤ k → listed.getD i false = true := by
          intro k
          induction k with
          | zero => intro _ i hi hk; omega
          | succ k ihk =>
            intro hk1 i hi hk
            obtain ⟨j, o, hij, hjl, hjo, hmem⟩ := hcov' i hi
            by_cases hj : j < l.length
            · exact hdown j o (ihk (by omega) j hj (by omega)) hjo i hmem
            · have hj' : j = l.length := by omega
              subst hj'
              exact hdep o hjo i hmem
        have hf' := fin v w hE (allOf_mk l 0 fun i hi => by rw [Nat.zero_add]; exact hR i (hall l.length (Nat.le_refl _) i hi (by omega)))
        have hch := wpAny_chain (P := P) (Q := Q) hwait hback' l.length hchain (last :: tail) l.length (by simp) (by omega) (Nat.le_refl _) listed (by omega) (fun i hi => by
          by_cases h' : i < l.length
          · rw [hall l.length (Nat.le_refl _) i h' (by omega)]; simpa using h'
          · have h2 := hlast i (by omega) (by omega)
            rw [Array.getD_eq_getD_getElem?, Array.getElem?_eq_getElem (by omega)] at h2 ⊢
            simp at h2 ⊢
            rw [h2]; simpa using h') (fuel + 1) (by
              -- what is not listed is at least as much
              have hlen : (last :: tail).length ≤ (listed.toList.filter (· == false)).length := by
                have e1 : listed.toList = listed.toList.take l.length ++ listed.toList.drop l.length := (List.take_append_drop _ _).symm
                rw [e1, List.filter_append, List.length_append]
                have e2 : (listed.toList.drop l.length).filter (· == false) = listed.toList.drop l.length := by
                  rw [List.filter_eq_self]
                  intro b hb
                  obtain ⟨k, hk, rfl⟩ := List.mem_iff_getElem.1 hb
                  simp at hk
                  have h2 := hlast (l.length + k) (by omega) (by omega)
                  rw [Array.getD_eq_getD_getElem?, Array.getElem?_eq_getElem (by omega)] at h2
                  simp at h2
                  simp [h2]
                rw [e2]
                simp
                omega
              omega) _ w hf'
        exact hch.2 l.length hi
  refine wp_region_any hm ?_
  have hE : Ext w0 { w0 with drawn := w0.drawn + 1 } := ⟨rfl, rfl, rfl, Nat.le_refl _, fun _ _ => rfl⟩
  let v0 : Nat → Value := fun i => match l[i]? with | some o => (match o.dst with | some d => a0.tmps.getD d undef | none => undef) | none => undef
  have hself : putAll v0 l 0 a0 = a0 := putAll_self v0 l 0 a0 fun i o d ho hd => by
    have hdl : d < a0.tmps.size := by
      have := List.all_eq_true.1 hsz d (List.mem_filterMap.2 ⟨o, List.mem_append_left _ (List.mem_of_getElem? ho), hd⟩)
      simpa using this
    simp only [v0, Nat.zero_add, ho, hd]
    rw [Array.getD_eq_getD_getElem?, Array.getElem?_eq_getElem hdl]
    rfl
  have hnone : ∀ i, (Array.replicate (l ++ last :: tail).toArray.size false).getD i false = true → False := by
    intro i hi
    rw [Array.getD_eq_getD_getElem?, Array.getElem?_replicate] at hi
    split at hi <;> simp at hi
  have := main (l ++ last :: tail).toArray.size (Array.replicate (l ++ last :: tail).toArray.size false) v0 { w0 with drawn := w0.drawn + 1 } (by simp; omega) (by simp)
    (fun k _ hk => by rw [Array.getD_eq_getD_getElem?, Array.getElem?_replicate, if_pos (by simp; omega)]; rfl) (fun i o hi => (hnone i hi).elim) hE (fun i hi => (hnone i hi).elim)
  rw [hself] at this
  exact this

/-- What is known of a slot, kept while the world grows. -/
structure SPred where
  p : Value → World → Prop
  st : ∀ v w w', p v w → Ext w w' → p v w'
/-- It is this value. -/
def isV (x : Value) : SPred := ⟨fun v _ => v = x, fun _ _ _ h _ => h⟩
def anyV : SPred := ⟨fun _ _ => True, fun _ _ _ _ _ => trivial⟩
def knowing (Rs : List SPred) (i : Nat) : Value → World → Prop := (Rs.getD i anyV).p
theorem wp_drawn {P : Program} {id : Nat} {l : List Oper} {Q : Exit → Act → World → Prop} {a0 : Act} {w0 : World} (Rs : List SPred)
    (hm : P.follows .mixedOrders = true) (hok : regionOk l a0.tmps.size = true)
    (steps : allSteps P l.toArray w0 a0 (knowing Rs) l 0)
    (fin : ∀ (v : Nat → Value) (w : World), Ext w0 w → allOf (knowing Rs) v w l 0 → Q .normal (putAll v l 0 a0) w) :
    (Code.region id l.toArray true).wp P Q a0 w0 :=
  wp_region_drawn (knowing Rs) hm hok (fun i v w w' h hE => (Rs.getD i anyV).st v w w' h hE) steps fin
/-- A step of an operation that is always wanted. -/
theorem stepOk_plain {P : Program} {ops : Array Oper} {w0 : World} {a0 : Act} {R : Nat → Value → World → Prop} {i : Nat} {o : Oper} (hg : o.guard = none)
    (h : ∀ (v : Nat → Value) (w : World), Ext w0 w → deps R v w (waitsOn o) → o.wp P (putAll v ops.toList 0 a0) w (fun a' w' => ∃ x, a' = (putAll v ops.toList 0 a0).put o.dst x ∧ Ext w w' ∧ R i x w') (fun _ _ _ => False)) :
    stepOk P ops w0 a0 R i o := fun v w hE hd => by
  rw [if_pos (by simp [Region.wanted, hg])]
  exact h v w hE hd
/-- The drawn region whose operations from the p-th on are left to the walk. -/
theorem wp_drawn_last {P : Program} {id : Nat} {ops : List Oper} (p : Nat) {Q : Exit → Act → World → Prop} {a0 : Act} {w0 : World} (Rs : List SPred) (hp : p < ops.length)
    (hm : P.follows .mixedOrders = true) (hok : regionOk ops a0.tmps.size = true) (hcov : covered ops p = true)
    (steps : allSteps' P ops.toArray w0 a0 (knowing Rs) (ops.take p) (ops.take p) 0)
    (fin : ∀ (v : Nat → Value) (w : World), Ext w0 w → allOf (knowing Rs) v w (ops.take p) 0 → wpList P ops.toArray Q (ops.drop p) (putAll v (ops.take p) 0 a0) w) :
    (Code.region id ops.toArray true).wp P Q a0 w0 := by
  have e : ops = ops.take p ++ ops.drop p := (List.take_append_drop _ _).symm
  obtain ⟨x, t, ht⟩ : ∃ x t, ops.drop p = x :: t := ⟨_, _, List.drop_eq_getElem_cons hp⟩
  have hl : (ops.take p).length = p := by simp; omega
  rw [ht] at e fin
  generalize ops.take p = l at e steps fin hl
  subst e
  subst hl
  exact wp_region_drawn_last (knowing Rs) hm hok hcov (fun i v w w' h hE => (Rs.getD i anyV).st v w w' h hE) steps fin
end Go.Proofs.YtpipmkaljkhgiaaDoor
