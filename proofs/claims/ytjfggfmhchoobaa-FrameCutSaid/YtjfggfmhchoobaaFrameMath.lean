/- Frames as plain lists: what a frame is, what is taken of bytes, and what a scan of bytes tells. No program. -/
import Derived.Test.YtjfggfmhchoobaaCrcTurn
namespace Go.Proofs.Ytjfggfmhchoobaa
namespace Frm
open Crc

def len4 (n : Nat) : List UInt8 := le4 (BitVec.ofNat 32 n)
def frm (x : List UInt8) : List UInt8 := len4 x.length ++ le4 (sum (len4 x.length ++ x)) ++ x
def word4 (b : List UInt8) : Nat := (b.getD 0 0).toNat + 256 * (b.getD 1 0).toNat + 65536 * (b.getD 2 0).toNat + 16777216 * (b.getD 3 0).toNat
/-- What is taken: the bytes in the frame that stands ahead. -/
def takeF (b : List UInt8) : Option (List UInt8) :=
  if b.length < 8 then none
  else if b.length - 8 < word4 b ∨ 16384 < word4 b then none
  else if frm ((b.drop 8).take (word4 b)) = b.take (8 + word4 b) then some ((b.drop 8).take (word4 b)) else none
def scanN : Nat → List UInt8 → List (List UInt8)
  | 0, _ => []
  | k + 1, b => match takeF b with
    | none => []
    | some x => x :: scanN k (b.drop (8 + x.length))
def scan (b : List UInt8) : List (List UInt8) := scanN (b.length + 1) b
def total (l : List (List UInt8)) : Nat := (l.map fun x => 8 + x.length).sum

theorem len4_length (n : Nat) : (len4 n).length = 4 := le4_length _
theorem frm_length (x : List UInt8) : (frm x).length = x.length + 8 := by
  simp [frm, len4_length, le4_length]; omega
theorem word4_len4 (n : Nat) (h : n < 4294967296) (r : List UInt8) : word4 (len4 n ++ r) = n := by
  unfold word4 len4 le4
  simp only [List.cons_append, List.nil_append, List.getD_cons_zero, List.getD_cons_succ, UInt8.toNat_ofNat', BitVec.toNat_ofNat]
  omega
theorem frm_head (x r : List UInt8) (h : x.length ≤ 16384) : word4 (frm x ++ r) = x.length := by
  unfold frm
  rw [List.append_assoc, List.append_assoc]
  exact word4_len4 _ (by omega) _
theorem frm_inner (x r : List UInt8) : ((frm x ++ r).drop 8).take x.length = x := by
  have h8 : (len4 x.length ++ le4 (sum (len4 x.length ++ x))).length = 8 := by simp [len4_length, le4_length]
  unfold frm
  rw [List.append_assoc (len4 x.length ++ le4 (sum (len4 x.length ++ x))), ← h8, List.drop_left, List.take_left]
theorem take_frm (x r : List UInt8) (h : x.length ≤ 16384) : takeF (frm x ++ r) = some x := by
  unfold takeF
  have hl := frm_length x
  rw [if_neg (by simp; omega), frm_head x r h, if_neg (by simp; omega), frm_inner]
  rw [if_pos]
  rw [show 8 + x.length = (frm x).length by omega, List.take_left]
theorem take_some {b x : List UInt8} (h : takeF b = some x) : x.length ≤ 16384 ∧ 8 + x.length ≤ b.length ∧ b.take (8 + x.length) = frm x ∧ b = frm x ++ b.drop (8 + x.length) ∧ x.length = word4 b := by
  unfold takeF at h
  split at h
  · cases h
  · rename_i h1
    split at h
    · cases h
    · rename_i h2
      split at h
      · rename_i h3
        simp only [Option.some.injEq] at h
        have hl : x.length = word4 b := by rw [← h]; simp; omega
        refine ⟨by omega, by omega, ?_, ?_, hl⟩
        · rw [hl, ← h3, h]
        · conv => lhs; rw [← List.take_append_drop (8 + x.length) b]
          rw [hl, ← h3, h]
      · cases h
theorem scanN_enough : ∀ (k k' : Nat) (b : List UInt8), b.length < k → b.length < k' → scanN k b = scanN k' b
  | 0, _, _, h, _ => by omega
  | _ + 1, 0, _, _, h => by omega
  | k + 1, k' + 1, b, h, h' => by
    unfold scanN
    cases ht : takeF b with
    | none => rfl
    | some x =>
      have := take_some ht
      simp only []
      rw [scanN_enough k k' _ (by simp; omega) (by simp; omega)]
theorem scan_none {b : List UInt8} (h : takeF b = none) : scan b = [] := by
  unfold scan scanN; rw [h]
theorem scan_some {b x : List UInt8} (h : takeF b = some x) : scan b = x :: scan (b.drop (8 + x.length)) := by
  have h1 : scan b = x :: scanN b.length (b.drop (8 + x.length)) := by
    unfold scan
    rw [scanN, h]
  have := take_some h
  rw [h1]
  unfold scan
  rw [scanN_enough b.length _ _ (by simp; omega) (Nat.lt_succ_self _)]
theorem scan_frm (x r : List UInt8) (h : x.length ≤ 16384) : scan (frm x ++ r) = x :: scan r := by
  rw [scan_some (take_frm x r h)]
  congr 2
  rw [show 8 + x.length = (frm x).length by rw [frm_length]; omega, List.drop_left]
def frms (l : List (List UInt8)) : List UInt8 := l.flatMap frm
theorem frms_length (l : List (List UInt8)) : (frms l).length = total l := by
  induction l with
  | nil => rfl
  | cons x l ih => simp [frms, total, frm_length] at ih ⊢; omega
theorem scan_frms (l : List (List UInt8)) (r : List UInt8) (h : ∀ x ∈ l, x.length ≤ 16384) : scan (frms l ++ r) = l ++ scan r := by
  induction l with
  | nil => rfl
  | cons x l ih =>
    have : frms (x :: l) = frm x ++ frms l := rfl
    rw [this, List.append_assoc, scan_frm x _ (h x (by simp)), ih fun y hy => h y (by simp [hy])]
    rfl
theorem scan_nil : scan [] = [] := scan_none (by unfold takeF; simp)
/-- What is scanned are frames that stand ahead, and behind them none. -/
theorem scan_spec : ∀ (k : Nat) (b : List UInt8), b.length < k → ∃ r, b = frms (scan b) ++ r ∧ takeF r = none ∧ total (scan b) ≤ b.length ∧ r = b.drop (total (scan b)) ∧ ∀ x ∈ scan b, x.length ≤ 16384
  | 0, _, h => by omega
  | k + 1, b, h => by
    cases ht : takeF b with
    | none => rw [scan_none ht]; exact ⟨b, rfl, ht, by simp [total], by simp [total], by simp⟩
    | some x =>
      have hx := take_some ht
      rw [scan_some ht]
      obtain ⟨r, h1, h2, h3, h4, h5⟩ := scan_spec k (b.drop (8 + x.length)) (by simp; omega)
      have h3' : total (scan (b.drop (8 + x.length))) ≤ b.length - (8 + x.length) := by simpa using h3
      refine ⟨r, ?_, h2, ?_, ?_, ?_⟩
      · conv => lhs; rw [hx.2.2.2.1, h1]
        simp [frms]
      · simp only [total, List.map_cons, List.sum_cons] at h3' ⊢; omega
      · rw [h4, List.drop_drop]; congr 1
      · intro y hy
        rcases List.mem_cons.1 hy with rfl | hy
        · exact hx.1
        · exact h5 y hy
theorem frm_inj {x y : List UInt8} (hx : x.length ≤ 16384) (hy : y.length ≤ 16384) (r : List UInt8) (h : frm x = (frm y ++ r).take (frm x).length) : x = y := by
  -- a frame that begins another row with a frame ahead is that frame
  have h1 : word4 (frm x ++ []) = x.length := frm_head x [] hx
  rw [List.append_nil] at h1
  have hl : (frm x).length = x.length + 8 := frm_length x
  have hly : (frm y).length = y.length + 8 := frm_length y
  have h2 : word4 (frm x) = y.length := by
    have h3 := frm_head y r hy
    rw [← h3]
    unfold word4
    have g : ∀ i, i < 8 → (frm x).getD i 0 = (frm y ++ r).getD i 0 := by
      intro i hi
      have e : (frm x)[i]? = (frm y ++ r)[i]? := by
        have e1 := congrArg (fun l : List UInt8 => l[i]?) h
        simp only [List.getElem?_take] at e1
        rw [e1, if_pos (by omega)]
      simp only [List.getD, e]
    rw [g 0 (by omega), g 1 (by omega), g 2 (by omega), g 3 (by omega)]
  have hxy : x.length = y.length := by omega
  have e : frm x = frm y := by
    rw [h, show (frm x).length = (frm y).length by omega, List.take_left]
  have i1 := frm_inner x []
  have i2 := frm_inner y []
  rw [e, hxy] at i1
  exact i1.symm.trans i2
attribute [irreducible] frm takeF scan len4 total
end Frm
end Go.Proofs.Ytjfggfmhchoobaa
