/- Lists of files beside lists of values: what is put, dropped, found. Plain. -/
import Derived.Test.YtpipmkaljkhgiaaDoorDisk12
namespace Go.Proofs.YtpipmkaljkhgiaaDoor
open Go Go.RowKit
set_option linter.unusedSimpArgs false
set_option linter.unusedVariables false

def insF (x : List UInt8 × File) : Files → Files
  | [] => [x]
  | y :: r => if bytesBefore x.1 y.1 then x :: y :: r else y :: insF x r
def delF (nm : List UInt8) (F : Files) : Files := F.filter fun p => !(p.1 == nm)
def putF (nm : List UInt8) (f : File) (F : Files) : Files := insF (nm, f) (delF nm F)
section
variable {w : World} {S : Nat → Prop}
theorem Held.ins {nm : List UInt8} {v : Value} {f : File} (hv : FileV w S v f) : ∀ {G : Raw} {F : Files}, Held w S G F → Held w S (insL (nm, v) G) (insF (nm, f) F)
  | [], [], _ => ⟨rfl, hv, trivial⟩
  | p :: G, q :: F, ⟨h1, h2, h3⟩ => by
    unfold insL insF
    rw [h1]
    show Held w S (if bytesBefore nm q.1 = true then _ else _) (if bytesBefore nm q.1 = true then _ else _)
    by_cases hb : bytesBefore nm q.1 = true
    · rw [if_pos hb, if_pos hb]; exact ⟨rfl, hv, h1, h2, h3⟩
    · rw [if_neg hb, if_neg hb]; exact ⟨h1, h2, h3.ins hv⟩
theorem Held.del (nm : List UInt8) : ∀ {G : Raw} {F : Files}, Held w S G F → Held w S (delL nm G) (delF nm F)
  | [], [], _ => trivial
  | p :: G, q :: F, ⟨h1, h2, h3⟩ => by
    have ih := h3.del nm
    unfold delL delF at ih ⊢
    rw [List.filter_cons, List.filter_cons, h1]
    by_cases hb : (!(q.1 == nm)) = true
    · rw [if_pos hb, if_pos hb]; exact ⟨h1, h2, ih⟩
    · rw [if_neg hb, if_neg hb]; exact ih
theorem Held.put {nm : List UInt8} {v : Value} {f : File} {G : Raw} {F : Files} (h : Held w S G F) (hv : FileV w S v f) : Held w S (putL nm v G) (putF nm f F) := (h.del nm).ins hv
def usedF (F : Files) : Nat := (F.map fun p => p.2.b.length).sum
theorem Held.total : ∀ {G : Raw} {F : Files}, Held w S G F → total G = usedF F
  | [], [], _ => rfl
  | p :: G, q :: F, ⟨h1, h2, h3⟩ => by
    have ih := h3.total
    obtain ⟨A, c, e, -⟩ := h2
    unfold Go.Proofs.YtpipmkaljkhgiaaDoor.total usedF at ih ⊢
    rw [List.map_cons, List.sum_cons, List.map_cons, List.sum_cons, ih, e]
    rfl
end
theorem atF_ins (nm k : List UInt8) (f : File) : ∀ F : Files, (∀ p ∈ F, p.1 ≠ nm) → atF (insF (nm, f) F) k = if k = nm then some f else atF F k
  | [], _ => by
    unfold atF insF
    rw [List.find?_cons]
    by_cases h : k = nm
    · subst h; simp
    · have : (nm == k) = false := beq_eq_false_iff_ne.2 fun e => h e.symm
      simp [this, h]
  | q :: F, hF => by
    have hq : q.1 ≠ nm := hF q (by simp)
    unfold insF
    by_cases hb : bytesBefore (nm, f).1 q.1 = true
    · rw [if_pos hb]
      unfold atF
      rw [List.find?_cons]
      by_cases h : k = nm
      · subst h; simp
      · have : (nm == k) = false := beq_eq_false_iff_ne.2 fun e => h e.symm
        simp [this, h]
    · rw [if_neg hb]
      have ih := atF_ins nm k f F fun p hp => hF p (by simp [hp])
      unfold atF at ih ⊢
      rw [List.find?_cons, List.find?_cons]
      by_cases hk : q.1 = k
      · have hkn : ¬ k = nm := fun e => hq (hk.trans e)
        rw [beq_iff_eq.2 hk, if_neg hkn]
      · rw [beq_eq_false_iff_ne.2 hk]; exact ih
theorem atF_del (nm k : List UInt8) : ∀ F : Files, atF (delF nm F) k = if k = nm then none else atF F k
  | [] => by unfold atF delF; simp
  | q :: F => by
    have ih := atF_del nm k F
    unfold atF delF at ih ⊢
    rw [List.filter_cons]
    by_cases hb : q.1 = nm
    · rw [if_neg (by simp [hb]), ih, List.find?_cons]
      by_cases hk : k = nm
      · rw [if_pos hk, if_pos hk]
      · have : (q.1 == k) = false := beq_eq_false_iff_ne.2 fun e => hk (e.symm.trans hb)
        rw [if_neg hk, if_neg hk, this]
    · rw [if_pos (by simp [hb]), List.find?_cons, List.find?_cons]
      by_cases hk : q.1 = k
      · have hkn : ¬ k = nm := fun e => hb (hk.trans e)
        rw [beq_iff_eq.2 hk, if_neg hkn]
      · rw [beq_eq_false_iff_ne.2 hk]; exact ih
theorem atF_put (nm k : List UInt8) (f : File) (F : Files) : atF (putF nm f F) k = if k = nm then some f else atF F k := by
  unfold putF
  rw [atF_ins nm k f _ (fun p hp => by unfold delF at hp; have := (List.mem_filter.1 hp).2; simpa using this), atF_del]
  by_cases h : k = nm
  · rw [if_pos h, if_pos h]
  · rw [if_neg h, if_neg h, if_neg h]
end Go.Proofs.YtpipmkaljkhgiaaDoor
