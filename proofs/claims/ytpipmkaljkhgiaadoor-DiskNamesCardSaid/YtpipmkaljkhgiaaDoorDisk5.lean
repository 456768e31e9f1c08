/- The sum over a map's entries, as a range comes to it; names are distinct. Plain. -/
import Derived.Test.YtpipmkaljkhgiaaDoorDisk4
namespace Go.Proofs.YtpipmkaljkhgiaaDoor
open Go Go.RowKit
set_option linter.unusedSimpArgs false
set_option linter.unusedVariables false

def lenV : Value → Nat
  | .agg cs => match cs.toList with
    | .slice _ n _ :: _ => n
    | _ => 0
  | _ => 0
def wgt : Bool → Value → Nat
  | true, _ => 0
  | false, v => lenV v
def sumL (left : Lit → Bool) (G : Raw) : Nat := (G.map fun p => wgt (left (.string p.1)) p.2).sum
theorem same_str (a b : List UInt8) : Lit.sameKey (.string a) (.string b) = (a == b) := rfl
theorem sumL_other (left : Lit → Bool) (nm : List UInt8) : ∀ G : Raw, (∀ p ∈ G, p.1 ≠ nm) → sumL (fun z => left z && !z.sameKey (.string nm)) G = sumL left G
  | [], _ => rfl
  | p :: G, h => by
    have h1 : (p.1 == nm) = false := beq_eq_false_iff_ne.2 (h p (by simp))
    have ih := sumL_other left nm G fun q hq => h q (by simp [hq])
    unfold sumL at ih ⊢
    simp only [List.map_cons, List.sum_cons, same_str] at ih ⊢
    rw [ih, h1]
    cases left (.string p.1) <;> rfl
theorem sumL_step (left : Lit → Bool) (nm : List UInt8) (v : Value) : ∀ G : Raw, (G.map (·.1)).Nodup → atL G nm = some v → left (.string nm) = true → sumL (fun z => left z && !z.sameKey (.string nm)) G = sumL left G + lenV v
  | [], _, h, _ => by simp [atL] at h
  | p :: G, hn, h, hl => by
    rw [List.map_cons, List.nodup_cons] at hn
    by_cases he : p.1 = nm
    · have hv : v = p.2 := by
        unfold atL at h
        rw [List.find?_cons, beq_iff_eq.2 he] at h
        simpa using h.symm
      have ho := sumL_other left nm G fun q hq e => hn.1 (List.mem_map.2 ⟨q, hq, by rw [e, he]⟩)
      unfold sumL at ho ⊢
      simp only [List.map_cons, List.sum_cons, same_str] at ho ⊢
      rw [ho, beq_iff_eq.2 he, he, hl, hv]
      simp only [wgt, Bool.not_true, Bool.and_false]
      omega
    · have hf : (p.1 == nm) = false := beq_eq_false_iff_ne.2 he
      have ih := sumL_step left nm v G hn.2 (by unfold atL at h ⊢; rw [List.find?_cons, hf] at h; exact h) hl
      unfold sumL at ih ⊢
      simp only [List.map_cons, List.sum_cons, same_str] at ih ⊢
      rw [ih, hf]
      have : wgt (left (.string p.1) && !false) p.2 = wgt (left (.string p.1)) p.2 := by cases left (.string p.1) <;> rfl
      omega
theorem sumL_done (left : Lit → Bool) (G : Raw) (h : ∀ kl, left kl = false) : sumL left G = (G.map fun p => lenV p.2).sum := by
  unfold sumL
  simp [h, wgt]
theorem sumL_start (G : Raw) : sumL (Maps.has (DataW.map (rawL G))) G = 0 := by
  have h : ∀ p ∈ G, Maps.has (DataW.map (rawL G)) (.string p.1) = true := by
    intro p hp
    rw [rawL_has]
    unfold atL
    rw [Option.isSome_map, List.find?_isSome]
    exact ⟨p, hp, by simp⟩
  generalize Maps.has (DataW.map (rawL G)) = f at h
  unfold sumL
  induction G with
  | nil => rfl
  | cons p G ih =>
    rw [List.map_cons, List.sum_cons, h p (by simp), ih fun q hq => h q (by simp [hq])]; rfl
theorem MapAt.nodup {w : World} {m : Nat} {G : Raw} (h : MapAt w m G) : (G.map (·.1)).Nodup := by
  obtain ⟨es, e, hp⟩ := World.ownsMap.tidy h keyedS
  simp only [DataW.map.injEq] at e
  subst e
  unfold rawL at hp
  rw [List.pairwise_map] at hp
  rw [List.nodup_iff_pairwise_ne, List.pairwise_map]
  exact hp.imp fun {a b} hab e => hab (by simp [e])
end Go.Proofs.YtpipmkaljkhgiaaDoor
