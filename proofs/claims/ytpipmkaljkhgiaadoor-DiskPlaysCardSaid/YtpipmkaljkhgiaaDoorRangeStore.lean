/- A store at a key that is there, in a round of a range over that very map: the range goes on as it was. -/
import Derived.Maps.RangeWalk
namespace Go.Proofs.YtpipmkaljkhgiaaDoor
open Go Go.ChangeMaps Go.MapKept Go.WideShapes
open Go.WideElems (Fit rd rg pl rd_key rd_val rg_of other_key rd_mk)
open Go.Maps (Keyed)
set_option linter.unusedVariables false

theorem set_same_born {l : List MapEntry} {j : Nat} {e0 e1 : MapEntry} (h : l[j]? = some e0) (hb : e1.born = e0.born) : (l.set j e1).map (·.born) = l.map (·.born) := by
  rw [List.map_set]
  apply List.ext_getElem?
  intro i
  rw [List.getElem?_set]
  split
  · rename_i e; subst e
    split
    · rw [List.getElem?_map, h, hb]; rfl
    · rename_i hl
      rw [List.getElem?_eq_none (by omega)]
  · rfl
theorem left_size (a : Array MapEntry) (seen : Array Nat) : (leftOf a seen).size = ((a.toList.map (·.born)).filter fun b => !seen.contains b).length := by
  unfold leftOf
  rw [List.filter_map, List.length_map, ← Array.length_toList, Array.toList_filter]
  rfl
section
variable {H : Type} {P : Program} {k : TypeId} {R : Value → Option (DataW H × List MemPlace)} {w : World} {b r n : Nat} {D : DataW H} {left : Lit → Bool} {cnt : Nat}
theorem ranges_store {t e : TypeId} (h : w.ranges P k R b r n D left cnt) (K : Keyed P k) (ht : P.underlying t = some (.map k e)) {key val : Value} {kl : Lit} {d : DataW H} {ps : List MemPlace} (hkey : keyOf P k key = some kl) (hv : R val = some (d, ps)) (hin : Maps.has D kl = true) :
    ∃ w', (Instr.mapUpdate t (.map (some b)) key val).run P w = .ok () w' ∧ w'.ranges P k R b r n (D.put kl d) left cnt ∧ w.mapTurned w' b := by
  have hne := h.ne
  obtain ⟨es, clock, since, seen, c0, hb, F, hs, rfl, hr, hold, rfl, hl1, hl2, hsc, hsk⟩ := h
  rcases K.find w hkey es.toList F.keys with ⟨h1, h2⟩ | ⟨j, e0, h1, h2, h3⟩
  · exfalso
    obtain ⟨p, hp, hpk⟩ := List.any_eq_true.1 hin
    obtain ⟨x, hx, rfl⟩ := List.mem_map.1 (mem_sorted.1 hp)
    obtain ⟨y, hy⟩ := F.reads x hx
    rw [rg_of hy] at hpk
    have hk := rd_key hy
    rw [WideAt.sameKey_eq hpk] at hk
    exact h2 x hx (K.inj hk hkey)
  · have hj : es[j]? = some e0 := by simpa using h2
    have hjl : j < es.toList.length := (List.getElem?_eq_some_iff.1 h2).1
    have hkeyf : ∀ e', es[j]? = some e' → ({ e' with key := key, val := val } : MapEntry).key = e'.key := fun e' he' => by rw [hj] at he'; cases he'; exact h3.symm
    have hlist : (es.modify j (fun e' => { e' with key := key, val := val })).toList = es.toList.set j { e0 with key := key, val := val } := by rw [Array.toList_modify, modify_eq_set _ _ _ _ h2]
    have who : ∀ x ∈ es.toList.set j { e0 with key := key, val := val }, x = { e0 with key := key, val := val } ∨ (x ∈ es.toList ∧ x.key ≠ key) := by
      intro x hx
      obtain ⟨i, hi, ex⟩ := List.getElem_of_mem hx
      rw [List.getElem_set] at ex
      split at ex
      · exact Or.inl ex.symm
      · rename_i hne
        have hi' : i < es.toList.length := by simpa using hi
        refine Or.inr ⟨ex ▸ List.getElem_mem hi', ?_⟩
        rw [← h3]
        exact other_key F h2 (by rw [List.getElem?_eq_getElem hi', ex]) (fun e1 => hne e1.symm)
    have hnew : rg P k R { e0 with key := key, val := val } = (kl, d) := rg_of (rd_mk hkey hv)
    have h0mem : e0 ∈ es.toList := List.mem_of_getElem? h2
    have h0 : (rg P k R e0).1 = kl := by
      obtain ⟨y, hy⟩ := F.reads e0 h0mem
      rw [rg_of hy]
      have := rd_key hy
      rw [h3, hkey] at this
      exact (Option.some.inj this).symm
    have F' : Fit P k R (es.modify j (fun e' => { e' with key := key, val := val })) clock := by
      refine ⟨by simpa using F.size, stamped_modify F.stamped _ _ (fun _ _ => rfl) (fun e' _ he' => hkeyf e' he'), ?_⟩
      intro x hx
      rw [hlist] at hx
      rcases who x hx with rfl | ⟨hx', hne⟩
      · exact ⟨_, rd_mk hkey hv⟩
      · exact F.reads x hx'
    refine ⟨_, ?_, ⟨es.modify j (fun e' => { e' with key := key, val := val }), clock, since, seen, c0, heap_setBlock_same hb _, F', by simpa using hs, ?_, (heap_setBlock_other hb _ hne).trans hr, fun x hx => ?_, ?_, fun x hx => ?_, fun x0 hx0 => ?_, hsc, hsk⟩, ⟨es, clock, _, clock, hb, rfl⟩⟩
    · simp [Instr.mapUpdate, run_underlying ht, MapKept.run_getObj_map hb, K.check w false hkey, h1, hj, h3, K.stays w hkey, MapKept.run_setObj_map _ hb, Result.andThen, setBlock]
    · rw [DataW.put_eq]
      congr 1
      symm
      refine Maps.sorted_put K.one ⟨key, hkey⟩ (Maps.fit_keys F) (Maps.fit_apart K F) ?_
      rw [Maps.filter_one K F hkey h2 h3, hlist, List.map_set, hnew]
      exact set_perm _ _ (by simpa using hjl) _
    · rw [hlist] at hx
      rcases who x hx with rfl | ⟨hx', _⟩
      · exact hold e0 h0mem
      · exact hold x hx'
    · rw [left_size, left_size, hlist]
      rw [set_same_born (e1 := { e0 with key := key, val := val }) h2 rfl]
    · rw [hlist] at hx
      rcases who x hx with rfl | ⟨hx', _⟩
      · rw [hnew]
        show left kl = _
        rw [← h0]; exact hl1 e0 h0mem
      · exact hl1 x hx'
    · obtain ⟨x, hx, rfl⟩ := hl2 x0 hx0
      by_cases hxk : x.key = key
      · refine ⟨{ e0 with key := key, val := val }, ?_, ?_⟩
        · rw [hlist]
          exact List.mem_of_getElem? (i := j) (by rw [List.getElem?_set, if_pos rfl, if_pos hjl])
        · rw [hnew]
          obtain ⟨y, hy⟩ := F.reads x hx
          rw [rg_of hy]
          have := rd_key hy
          rw [hxk, hkey] at this
          exact Option.some.inj this
      · refine ⟨x, ?_, rfl⟩
        rw [hlist]
        obtain ⟨i, hi⟩ := List.getElem?_of_mem hx
        refine List.mem_of_getElem? (i := i) ?_
        rw [List.getElem?_set]
        have hij : j ≠ i := by
          rintro rfl
          rw [h2] at hi
          cases hi
          exact hxk h3
        rw [if_neg hij, hi]
end
end Go.Proofs.YtpipmkaljkhgiaaDoor
