/- Plain parts of the laws' helpers. -/
import Derived.Test.YtakebdeldndaaaaGreatFo7
import Derived.Test.YtakebdeldndaaaaGreatEvM
namespace Go.Proofs.YtakebdeldndaaaaGreat
open Go Go.RowKit
set_option linter.unusedSimpArgs false
set_option linter.unusedVariables false

def allC : ClV := ⟨[], []⟩
def fewF (l : List EvV) : List EvV := (l.take 40).filter fun e => mayEv e == 0
theorem evinfo : SlInfo Tryz.prog 23 62 (.agg #[.string { data := #[] }, .string { data := #[] }, .slice none 0 0, .slice none 0 0]) REv.size 80 := ⟨Tryz.underlying23, by kernel_rfl, rfl, by decide⟩
theorem few_next {l : List EvV} {k : Nat} (hk : k < l.length) (h : k < 40) : (l.take (k + 1)).filter (fun e => mayEv e == 0) = (l.take k).filter (fun e => mayEv e == 0) ++ if mayEv l[k] == 0 then [l[k]] else [] := by
  rw [List.take_succ_eq_append_getElem hk, List.filter_append]
  congr 1
  rw [List.filter_cons]
  split <;> rfl
theorem slR_take {α : Type} {R : Rep α} {w : World} {K : Nat → Prop} {A : Option Addr} {n c : Nat} {xs : List α} (h : SlR R w K A n c xs) (k : Nat) (hk : k ≤ n) : SlR R w K A k c (xs.take k) := by
  obtain ⟨h1, h2, h3, cs, hr, hv⟩ := h
  refine ⟨by rw [List.length_take]; omega, by omega, h3, _, hr.take k, ?_⟩
  rcases hv with h | ⟨b, o, e, kb, h⟩
  · exact .inl (by rw [h, List.take_nil])
  · refine .inr ⟨b, o, e, kb, fun j v hv => h j v ?_⟩
    rw [List.getElem?_take] at hv
    split at hv
    · exact hv
    · cases hv
def firstE (l : Ents) : Ents := l.take 30
theorem slR_nil {α : Type} {R : Rep α} (w : World) (K : Nat → Prop) : SlR R w K none 0 0 [] := ⟨rfl, Nat.le_refl _, by decide, [], rfl, .inl rfl⟩
theorem slR_box {α : Type} {R : Rep α} {w : World} {K : Nat → Prop} {x : α} {cs : List Value} {t : TypeId} (h : R.rel (w.alloc (.cells cs.toArray t)) K x cs) (hK : K w.heap.size) : SlR R (w.alloc (.cells cs.toArray t)) K (some ⟨w.heap.size, 0, none⟩) 1 1 [x] :=
  ⟨rfl, Nat.le_refl _, by decide, cs, Rows.single h, .inr ⟨_, _, rfl, hK, fun j v hv => by rw [Nat.zero_add]; exact cells_new w cs t j v hv⟩⟩
def exD : DefV := ⟨2, [110], [allC]⟩
def ex1 : EvV := ⟨[115], [116], [], [([110], 5)]⟩
def ex2 : EvV := ⟨[115], [116], [], []⟩
def ex3 : EvV := ⟨[115], [116], [], [([110], -2)]⟩
theorem ex_may : mayDef exD = 0 := by decide
theorem ex_1 : (StepF exD ex1 []).2 = [([], 5)] := by decide
theorem ex_2 : (StepF exD ex2 [([], 5)]).2 = [([], 5)] := by decide
theorem ex_3 : (StepF exD ex3 [([], 5)]).2 = [([], 3)] := by decide
theorem small_ex (n : Int) (h : -1125899906842624 ≤ n ∧ n ≤ 1125899906842624) : SmallE ⟨[115], [116], [], [([110], n)]⟩ := ⟨by simp, by simp, by simp, by simpa using h⟩
theorem small_ex2 : SmallE ex2 := ⟨by decide, by simp [ex2], by simp [ex2], by simp [ex2]⟩
/-- An event whose one field lies in a box of its own. -/
theorem evS_box {w : World} {S : Nat → Prop} (n : Int) (hS : ¬ S w.heap.size) : EvS (w.alloc (.cells #[.string { data := #[110] }, .int .i64 n] 101)) S none 0 0 (some ⟨w.heap.size, 0, none⟩) 1 1 ⟨[115], [116], [], [([110], n)]⟩ :=
  ⟨(by decide : [115].length ≤ 9223372036854775807), (by decide : [116].length ≤ 9223372036854775807), slR_nil _ _, slR_box (cs := [.string { data := #[110] }, .int .i64 n]) (R := RField) (x := ([110], n)) (field_mk (f := ([110], n)) (by decide : [110].length ≤ 9223372036854775807)) ⟨by simp, hS⟩⟩
theorem evS_none {w : World} {S : Nat → Prop} : EvS w S none 0 0 none 0 0 ex2 := ⟨(by decide : [115].length ≤ 9223372036854775807), (by decide : [116].length ≤ 9223372036854775807), slR_nil _ _, slR_nil _ _⟩
end Go.Proofs.YtakebdeldndaaaaGreat
