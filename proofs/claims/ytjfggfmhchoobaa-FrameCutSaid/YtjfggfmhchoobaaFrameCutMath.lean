/- Frames that are cut, or of which a byte is turned: plain lists, no program. -/
import Derived.Test.YtjfggfmhchoobaaFrameMath
import Derived.Test.YtjfggfmhchoobaaCrcTurn
namespace Go.Proofs.Ytjfggfmhchoobaa
namespace Frm
open Crc

theorem sum_set_ne (s : List UInt8) (p : Nat) (c d : UInt8) (hp : s[p]? = some c) (hd : d ≠ 0) : sum (s.set p (c ^^^ d)) ≠ sum s := by
  have hl := (List.getElem?_eq_some_iff.1 hp).1
  have e := turnAt_snoc s p [] d c (by simpa using hl) (by rw [turnAt_nil s p (by omega)]; simpa using hp)
  rw [turnAt_nil s p (by omega)] at e
  simp only [List.nil_append, List.length_nil, Nat.add_zero] at e
  rw [← e]
  exact sum_turn_ne s p [d] (by simp; omega) (by simp) d (by simp) hd
theorem frm_parts (x : List UInt8) : frm x = len4 x.length ++ le4 (sum (len4 x.length ++ x)) ++ x := by unfold frm; rfl
theorem frm_body (x : List UInt8) (i : Nat) : (frm x)[8 + i]? = x[i]? := by
  have h8 : (len4 x.length ++ le4 (sum (len4 x.length ++ x))).length = 8 := by rw [List.length_append, len4_length, le4_length]
  rw [frm_parts, List.getElem?_append_right (by omega), h8]
  congr 1; omega
theorem frm_mid (x : List UInt8) (i : Nat) (hi : i < 4) : (frm x)[4 + i]? = (le4 (sum (len4 x.length ++ x)))[i]? := by
  rw [frm_parts, List.append_assoc, List.getElem?_append_right (by rw [len4_length]; omega), len4_length, List.getElem?_append_left (by rw [le4_length]; omega)]
  congr 1; omega
theorem getD_of {a b : List UInt8} {i : Nat} (h : a[i]? = b[i]?) : a.getD i 0 = b.getD i 0 := by rw [List.getD_eq_getElem?_getD, List.getD_eq_getElem?_getD, h]
theorem word4_of {a b : List UInt8} (h : ∀ i, i < 4 → a[i]? = b[i]?) : word4 a = word4 b := by
  unfold word4
  rw [getD_of (h 0 (by omega)), getD_of (h 1 (by omega)), getD_of (h 2 (by omega)), getD_of (h 3 (by omega))]
theorem xor_ne (c d : UInt8) (hd : d ≠ 0) : c ^^^ d ≠ c := by
  intro e
  have : c ^^^ (c ^^^ d) = c ^^^ c := by rw [e]
  rw [← UInt8.xor_assoc, UInt8.xor_self, UInt8.zero_xor] at this
  exact hd this
theorem turned_none (x R : List UInt8) (hx : x.length ≤ 16384) (j : Nat) (c d : UInt8) (hj4 : 4 ≤ j) (hc : (frm x)[j]? = some c) (hd : d ≠ 0) :
    takeF ((frm x).set j (c ^^^ d) ++ R) = none := by
  have hjl : j < (frm x).length := (List.getElem?_eq_some_iff.1 hc).1
  have hfl := frm_length x
  obtain ⟨u, hu⟩ : ∃ u, u = (frm x).set j (c ^^^ d) := ⟨_, rfl⟩
  rw [← hu]
  have hul : u.length = x.length + 8 := by rw [hu, List.length_set, hfl]
  have hug : ∀ i, i ≠ j → u[i]? = (frm x)[i]? := fun i hi => by rw [hu, List.getElem?_set_ne (fun e => hi e.symm)]
  have huj : u[j]? = some (c ^^^ d) := by rw [hu, List.getElem?_set_self hjl]
  have hw : word4 (u ++ R) = x.length := by
    rw [← frm_head x R hx]
    refine word4_of fun i hi => ?_
    rw [List.getElem?_append_left (by omega), List.getElem?_append_left (by omega)]
    exact hug i (by omega)
  cases ht : takeF (u ++ R) with
  | none => rfl
  | some y =>
    exfalso
    obtain ⟨-, h2, h3, -, h5⟩ := take_some ht
    rw [hw] at h5
    have h6 : u = frm y := by rw [← h3, h5, show 8 + x.length = u.length by omega, List.take_left]
    by_cases hj8 : j < 8
    · have hyx : y = x := by
        apply List.ext_getElem?
        intro i
        rw [← frm_body y i, ← h6, hug _ (by omega), frm_body]
      rw [h6, hyx, hc] at huj
      exact xor_ne c d hd (Option.some.inj huj).symm
    · obtain ⟨p, rfl⟩ : ∃ p, j = 8 + p := ⟨j - 8, by omega⟩
      rw [frm_body] at hc
      have hpl : p < x.length := by omega
      have hyx : y = x.set p (c ^^^ d) := by
        apply List.ext_getElem?
        intro i
        by_cases e : i = p
        · subst e; rw [← frm_body y i, ← h6, huj, List.getElem?_set_self hpl]
        · rw [← frm_body y i, ← h6, hug _ (by omega), frm_body, List.getElem?_set_ne (fun h => e h.symm)]
      have hle : le4 (sum (len4 x.length ++ y)) = le4 (sum (len4 x.length ++ x)) := by
        apply List.ext_getElem?
        intro i
        by_cases hi : i < 4
        · rw [← frm_mid x i hi, ← hug _ (by omega), h6, frm_mid y i hi, h5]
        · rw [List.getElem?_eq_none (by rw [le4_length]; omega), List.getElem?_eq_none (by rw [le4_length]; omega)]
      have hs := le4_inj hle
      have e : len4 x.length ++ y = (len4 x.length ++ x).set (4 + p) (c ^^^ d) := by
        rw [hyx, List.set_append_right _ _ (by rw [len4_length]; omega), len4_length]
        congr 2; omega
      rw [e] at hs
      refine sum_set_ne _ _ c d ?_ hd hs
      rw [List.getElem?_append_right (by rw [len4_length]; omega), len4_length, show 4 + p - 4 = p by omega]
      exact hc
theorem cut_none (x : List UInt8) (hx : x.length ≤ 16384) (j : Nat) (hj : j < 8 + x.length) : takeF ((frm x).take j) = none := by
  have hfl := frm_length x
  cases ht : takeF ((frm x).take j) with
  | none => rfl
  | some y =>
    exfalso
    obtain ⟨-, h2, -, -, h5⟩ := take_some ht
    rw [List.length_take] at h2
    have hw : word4 ((frm x).take j) = x.length := by
      have h1 := frm_head x [] hx
      rw [List.append_nil] at h1
      rw [← h1]
      refine word4_of fun i hi => ?_
      rw [List.getElem?_take, if_pos (by omega)]
    rw [hw] at h5
    omega
theorem total_take_succ (l : List (List UInt8)) (k : Nat) (hk : k < l.length) : total (l.take (k + 1)) = total (l.take k) + (8 + (l[k]'hk).length) := by
  rw [List.take_add_one, List.getElem?_eq_getElem hk]
  unfold total
  rw [List.map_append, List.sum_append]
  simp only [Option.toList_some, List.map_cons, List.map_nil, List.sum_cons, List.sum_nil, Nat.add_zero]
theorem frms_at (l : List (List UInt8)) (k : Nat) (hk : k < l.length) : frms l = frms (l.take k) ++ (frm (l[k]'hk) ++ frms (l.drop (k + 1))) := by
  conv => lhs; rw [← List.take_append_drop k l, List.drop_eq_getElem_cons hk]
  unfold frms
  rw [List.flatMap_append, List.flatMap_cons]
theorem cut_scan (l : List (List UInt8)) (h : ∀ x ∈ l, x.length ≤ 16384) (p k : Nat) (hk : k < l.length) (h1 : total (l.take k) ≤ p) (h2 : p < total (l.take (k + 1))) : scan ((frms l).take p) = l.take k := by
  have hx := h _ (List.getElem_mem hk)
  rw [total_take_succ l k hk] at h2
  have hfl := frm_length (l[k]'hk)
  rw [frms_at l k hk, List.take_append, List.take_of_length_le (by rw [frms_length]; omega), frms_length, List.take_append_of_le_length (by omega)]
  rw [scan_frms _ _ (fun x hx => h x (List.mem_of_mem_take hx)), scan_none (cut_none _ hx _ (by omega)), List.append_nil]
theorem turn_scan (l : List (List UInt8)) (h : ∀ x ∈ l, x.length ≤ 16384) (p k : Nat) (hk : k < l.length) (h1 : total (l.take k) ≤ p) (h2 : p < total (l.take (k + 1))) (c d : UInt8) (hc : (frms l)[p]? = some c) (hd : d ≠ 0) :
    ∃ R, scan ((frms l).set p (c ^^^ d)) = l.take k ++ R ∧ (4 ≤ p - total (l.take k) → R = []) := by
  have hx := h _ (List.getElem_mem hk)
  rw [total_take_succ l k hk] at h2
  have hfl := frm_length (l[k]'hk)
  obtain ⟨q, rfl⟩ : ∃ q, p = total (l.take k) + q := ⟨p - total (l.take k), by omega⟩
  have hq : q < (frm (l[k]'hk)).length := by omega
  have hl := frms_length (l.take k)
  rw [frms_at l k hk, List.getElem?_append_right (by omega), hl, Nat.add_sub_cancel_left, List.getElem?_append_left hq] at hc
  rw [frms_at l k hk, List.set_append_right _ _ (by omega), hl, Nat.add_sub_cancel_left, List.set_append_left _ _ hq]
  rw [scan_frms _ _ (fun x hx => h x (List.mem_of_mem_take hx))]
  exact ⟨_, rfl, fun h4 => scan_none (turned_none _ _ hx q c d h4 hc hd)⟩
/-- Where each frame ends. -/
def endsOf (l : List (List UInt8)) : List Int := (List.range l.length).map fun i => ((total (l.take (i + 1)) : Nat) : Int)
theorem endsOf_length (l : List (List UInt8)) : (endsOf l).length = l.length := by simp [endsOf]
theorem endsOf_get (l : List (List UInt8)) (i : Nat) (hi : i < (endsOf l).length) : (endsOf l)[i] = ((total (l.take (i + 1)) : Nat) : Int) := by simp [endsOf]
theorem endsOf_snoc (l : List (List UInt8)) (x : List UInt8) : endsOf (l ++ [x]) = endsOf l ++ [((total (l ++ [x]) : Nat) : Int)] := by
  unfold endsOf
  rw [List.length_append, List.length_singleton, List.range_succ, List.map_append, List.map_singleton]
  congr 1
  · apply List.map_congr_left
    intro i hi
    rw [List.mem_range] at hi
    rw [List.take_append_of_le_length (by omega)]
  · rw [List.take_of_length_le (by simp)]
end Frm
end Go.Proofs.Ytjfggfmhchoobaa
