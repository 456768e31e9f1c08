/- A row asked by a function: slices.IndexFunc, slices.ContainsFunc; and by a text: slices.Contains. -/
import Derived.Test.YtakebdeldndaaaaGreatDoorFound
namespace Go.Proofs.YtakebdeldndaaaaGreatDoor
open Go Go.RowKit
set_option linter.unusedSimpArgs false
set_option linter.unusedVariables false
def Rep.only {α : Type} (R : Rep α) (p : α → Prop) : Rep α where
 size := R.size
 rel := fun w K x cs => R.rel w K x cs ∧ p x
 len := fun h => R.len h.1
 one := fun h => R.one h.1
 ext := fun h hk => ⟨R.ext h.1 hk, h.2⟩
 mono := fun h hk => ⟨R.mono h.1 hk, h.2⟩
def Short (s : List UInt8) : Prop := s.length ≤ 9223372036854775807
def Rep.txt : Rep (List UInt8) := Rep.only Rep.str Short
theorem txt_at {w : World} {K : Nat → Prop} {A : Option Addr} {n c : Nat} {xs : List (List UInt8)} (h : SlR Rep.txt w K A n c xs) (i : Nat) (hi : i < xs.length) :
  ∃ b o, A = some ⟨b, o, none⟩ ∧ K b ∧ w.cell? ⟨b, o + i, none⟩ = some (.string (str (xs[i]'hi))) ∧ Short (xs[i]'hi) := by
 obtain ⟨b, o, d, e, hk, ⟨hd, hs⟩, hg⟩ := h.get (by decide) i hi
 refine ⟨b, o, e, hk, ?_, hs⟩
 have e' : d = [strV (xs[i]'hi)] := hd
 subst e'
 have := hg 0 _ rfl
 simpa [show Rep.txt.size = 1 from rfl, strV] using this
theorem rows_txt_eq {w : World} {K : Nat → Prop} : ∀ {l : List (List UInt8)} {cs : List Value}, Rows Rep.txt w K l cs → cs = l.map strV
 | [], _, h => h
 | s :: l, _, ⟨c, r, e, hc, hr⟩ => by rw [e, show c = [strV s] from hc.1, rows_txt_eq hr]; rfl
theorem rows_txt {w : World} {K : Nat → Prop} : ∀ {l : List (List UInt8)}, (∀ s ∈ l, Short s) → Rows Rep.txt w K l (l.map strV)
 | [], _ => rfl
 | s :: l, h => ⟨[strV s], l.map strV, rfl, ⟨rfl, h s (by simp)⟩, rows_txt fun x hx => h x (by simp [hx])⟩
theorem rows_txt_short {w : World} {K : Nat → Prop} : ∀ {l : List (List UInt8)} {cs : List Value}, Rows Rep.txt w K l cs → ∀ s ∈ l, Short s
 | [], _, _, _, h => by simp at h
 | s :: l, _, ⟨c, r, e, hc, hr⟩, x, hx => by
  rcases List.mem_cons.1 hx with rfl | hx
  ·exact hc.2
  ·exact rows_txt_short hr x hx
theorem SlR.short {w : World} {K : Nat → Prop} {A : Option Addr} {n c : Nat} {xs : List (List UInt8)} (h : SlR Rep.txt w K A n c xs) : ∀ s ∈ xs, Short s :=
 let ⟨_, _, _, _, hr, _⟩ := h; rows_txt_short hr
def Enters (g : Nat) : Prop := ∀ args w, (callFunc g args).run Tryz.prog w = .ok (.enter g args) w
def Says {α : Type} (g : Nat) (lb : Array Value) (enc : World → α → Value → Prop) (p : α → Bool) (w : World) : Prop :=
 ∀ x v W, Ext w W → enc W x v → Calls Tryz.prog g (#[v] ++ lb) W fun e W' => e = .returned (.bool (p x)) ∧ Ext W W'
theorem Says.later {α : Type} {g : Nat} {lb : Array Value} {enc : World → α → Value → Prop} {p : α → Bool} {w w' : World} (h : Says g lb enc p w) (hE : Ext w w') : Says g lb enc p w' :=
 fun x v W hW hx => h x v W (Ext.trans' hE hW) hx
def encTxt (_ : World) (s : List UInt8) (v : Value) : Prop := v = .string (str s) ∧ Short s
def idxW {α : Type} (p : α → Bool) (xs : List α) : Int := match xs.findIdx? p with
 | none => -1
 | some k => (k : Int)
theorem idxW_some {α : Type} {p : α → Bool} {xs : List α} {k : Nat} (hk : k < xs.length) (he : p xs[k] = true) (hno : ∀ j (hj : j < k) (h : j < xs.length), p xs[j] = false) : idxW p xs = (k : Int) := by
 unfold idxW
 have : xs.findIdx? p = some k := by
  rw [List.findIdx?_eq_some_iff_getElem]
  exact ⟨hk, he, fun j hj => by simpa using hno j hj (by omega)⟩
 rw [this]
theorem idxW_none {α : Type} {p : α → Bool} {xs : List α} (hno : ∀ j (h : j < xs.length), p xs[j] = false) : idxW p xs = -1 := by
 unfold idxW
 have : xs.findIdx? p = none := by
  rw [List.findIdx?_eq_none_iff]
  intro x hx
  obtain ⟨j, hj, rfl⟩ := List.getElem_of_mem hx
  exact hno j hj
 rw [this]
theorem idxW_any {α : Type} (p : α → Bool) (xs : List α) : decide (0 ≤ idxW p xs) = xs.any p := by
 unfold idxW
 cases h : xs.findIdx? p with
 | none =>
  rw [List.findIdx?_eq_none_iff] at h
  have : xs.any p = false := by rw [List.any_eq_false]; intro x hx; rw [h x hx]; decide
  rw [this]; rfl
 | some k =>
  obtain ⟨hk, he, -⟩ := List.findIdx?_eq_some_iff_getElem.1 h
  have : xs.any p = true := List.any_eq_true.2 ⟨_, List.getElem_mem hk, he⟩
  rw [this]
  exact decide_eq_true (show (0 : Int) ≤ (k : Int) by omega)
theorem prefix_next {α : Type} {p : α → Bool} {xs : List α} {k : Nat} (hno : ∀ j (hj : j < k) (h : j < xs.length), p xs[j] = false) (hk : k < xs.length) (hp : p xs[k] = false) : ∀ j (hj : j < k + 1) (h : j < xs.length), p xs[j] = false := fun j hj h => by
 rcases Nat.lt_succ_iff_lt_or_eq.1 hj with h' | rfl
 ·exact hno j h' h
 ·exact hp
set_option maxRecDepth 100000 in
set_option maxHeartbeats 4000000 in
theorem indexFunc_txt {w : World} {A : Option Addr} {n c : Nat} {xs : List (List UInt8)} (ha : SlR Rep.txt w (· < w.heap.size) A n c xs) (g : Nat) (lb : Array Value) (hg : Enters g) (p : List UInt8 → Bool) (hp : Says g lb encTxt p w) :
  Calls Tryz.prog 193 #[.slice A n c, .func (.func g) #[] lb] w fun e w' => e = .returned (.int .i64 (idxW p xs)) ∧ Ext w w' := by
 have hn := hid ha.1
 have hnc := ha.2.1
 have hcm := ha.2.2.1
 have HA := hid ha
 have HP := hid hp
 have hg' : ∀ args w, (callFunc g args).run Tryz.prog w = .ok (.enter g args) w := hg
 clear ha hp
 go_enter Tryz.func193, Tryz.ntmps193
 go_wp2_with fail
 go_loopw [8] (fun i wr => ∃ k : Nat, k ≤ n ∧ i = .int .i64 (k : Int) ∧ Hid (Ext w wr) ∧ Hid (∀ j (hj : j < k) (h : j < xs.length), p xs[j] = false)) (fun i _ => n - (intOf i).toNat)
 case atStart => exact ⟨0, by omega, rfl, Below.refl _ _, fun j hj => by omega⟩
 case round =>
  obtain ⟨k, hk, rfl, HE, HN⟩ := hrel
  by_cases hlt : k < n
  ·have hkx : k < xs.length := by have := hn.out; omega
   have hlt' : (k : Int) < (n : Int) := by omega
   have hk00 : ¬ ((k : Int) < 0) := by omega
   have hk0 : (0 : Int) ≤ (k : Int) := by omega
   obtain ⟨b, o, rfl, -, f0, hsh⟩ := txt_at (HA.out.grow HE.out) k hkx
   have hcl := hid (HP.out xs[k] _ wr HE.out ⟨rfl, hsh⟩)
   go_wp2_with fail
   refine (hcl.out).mono ?_
   rintro e w2 ⟨rfl, hE2⟩
   have HE2 := hid (HE.out.trans (hE2.mono HE.out.size))
   clear hE2
   cases hpx : p xs[k]
   ·have hn2 := hid (prefix_next HN.out hkx hpx)
    go_wp2_with fail
    go_roundw
    case rel => exact ⟨k + 1, by omega, by go_num, HE2, hn2⟩
    case measure => simp [intOf]; omega
   ·have hb := hid (idxW_some hkx hpx HN.out)
    go_wp2
    go_ret
    exact ⟨by rw [hb.out]; rfl, HE2.out⟩
  ·obtain rfl : k = n := by omega
   have hlt' : ¬ ((k : Int) < (k : Int)) := by omega
   have hb := hid (idxW_none (p := p) (xs := xs) fun j h => HN.out j (by have := hn.out; omega) h)
   go_wp2
   go_ret
   exact ⟨by rw [hb.out]; rfl, HE.out⟩
set_option maxRecDepth 100000 in
theorem containsFunc_txt {w : World} {A : Option Addr} {n c : Nat} {xs : List (List UInt8)} (ha : SlR Rep.txt w (· < w.heap.size) A n c xs) (g : Nat) (lb : Array Value) (hg : Enters g) (p : List UInt8 → Bool) (hp : Says g lb encTxt p w) :
  Calls Tryz.prog 158 #[.slice A n c, .func (.func g) #[] lb] w fun e w' => e = .returned (.bool (xs.any p)) ∧ Ext w w' := by
 have hcc := indexFunc_txt ha g lb hg p hp
 have hany := hid (idxW_any p xs)
 clear ha hp hg
 go_enter Tryz.func158, Tryz.ntmps158
 go_wp2_with fail
 refine hcc.mono ?_
 rintro e w1 ⟨rfl, hE⟩
 have HE := hid hE
 clear hE hcc
 generalize idxW p xs = r at hany ⊢
 go_wp2
 go_ret
 exact ⟨by rw [← hany.out]; rfl, HE.out⟩
end Go.Proofs.YtakebdeldndaaaaGreatDoor
