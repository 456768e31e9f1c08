/- Bytes as strings: what 'string(b)' of a slice tells, and bytes.Equal. -/
import Derived.Test.YtpipmkaljkhgiaaDoorApp
import Derived.Test.YtpipmkaljkhgiaaDoorRegion
import Derived.Laws.BytesArg
namespace Go.Proofs.YtpipmkaljkhgiaaDoor
open Go Go.RowKit
set_option maxRecDepth 100000

def str (bs : List UInt8) : ByteArray := ⟨bs.toArray⟩
theorem str_toList (bs : List UInt8) : (str bs).toList = bs := by
  rw [ByteArray.toList_eq]; simp [str]
theorem str_size (bs : List UInt8) : (str bs).size = bs.length := rfl
theorem str_inj {a b : List UInt8} (h : str a = str b) : a = b := by
  have := congrArg (fun s : ByteArray => s.data.toList) h
  simpa [str] using this
theorem run_str {w : World} {A : Option Addr} {bs : List UInt8} (h : RB w A bs) (c : Nat) :
    (convert 22 9 (.slice A bs.length c)).run Tryd.prog w = .ok (.string (str bs)) w := by
  rcases h with h | ⟨b, o, rfl, h⟩
  · have hb : bs = [] := by cases bs with
      | nil => rfl
      | cons x l => simp [bvs] at h
    subst hb
    rw [run_convert_bytes_string w 22 9 _ _ _ c Tryd.underlying22 Tryd.underlying5 Tryd.underlying9]
    cases A <;> simp [Conv.bytesToString, loadCells, loadCellsFrom] <;> rfl
  · have := run_convert_bytes_arg (P := Tryd.prog) w 22 5 Tryd.underlying22 Tryd.underlying5 b o bs.length c (bs.map fun x => (x.toNat : Int)) (by simp) (fun i hi => by
      have := h i (bv bs[i]) (by simp [bvs, hi])
      rw [this]
      simp [bv, hi]) 9 Tryd.underlying9
    rw [this]
    congr 2
    simp [strOfNums, str, Function.comp_def]

/-- A slot holds bytes of the call's own. -/
def ownsV (base : Nat) (bs : List UInt8) : SPred := ⟨fun v w => OB w base v bs, fun _ _ _ h hE => h.below hE⟩
end Go.Proofs.YtpipmkaljkhgiaaDoor
