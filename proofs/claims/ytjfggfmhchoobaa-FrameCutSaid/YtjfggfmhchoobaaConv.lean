/- Bytes as strings: what 'string(b)' of a slice tells, and bytes.Equal. -/
import Derived.Test.YtjfggfmhchoobaaApp
import Derived.Test.YtjfggfmhchoobaaRegion
import Derived.Laws.BytesArg
namespace Go.Proofs.Ytjfggfmhchoobaa
open Go Go.RowKit

def str (bs : List UInt8) : ByteArray := ⟨bs.toArray⟩
theorem str_toList (bs : List UInt8) : (str bs).toList = bs := by
  rw [ByteArray.toList_eq]; simp [str]
theorem str_size (bs : List UInt8) : (str bs).size = bs.length := rfl
theorem str_inj {a b : List UInt8} (h : str a = str b) : a = b := by
  have := congrArg (fun s : ByteArray => s.data.toList) h
  simpa [str] using this
theorem run_str {w : World} {A : Option Addr} {bs : List UInt8} (h : RB w A bs) (c : Nat) :
    (convert 22 9 (.slice A bs.length c)).run Try.prog w = .ok (.string (str bs)) w := by
  rcases h with h | ⟨b, o, rfl, h⟩
  · have hb : bs = [] := by cases bs with
      | nil => rfl
      | cons x l => simp [bvs] at h
    subst hb
    rw [run_convert_bytes_string w 22 9 _ _ _ c Try.underlying22 Try.underlying5 Try.underlying9]
    cases A <;> simp [Conv.bytesToString, loadCells, loadCellsFrom] <;> rfl
  · have := run_convert_bytes_arg (P := Try.prog) w 22 5 Try.underlying22 Try.underlying5 b o bs.length c (bs.map fun x => (x.toNat : Int)) (by simp) (fun i hi => by
      have := h i (bv bs[i]) (by simp [bvs, hi])
      rw [this]
      simp [bv, hi]) 9 Try.underlying9
    rw [this]
    congr 2
    simp [strOfNums, str, Function.comp_def]

theorem equal_calls (A1 A2 : Option Addr) (c1 c2 : Nat) (x y : List UInt8) (w : World) (h1 : RB w A1 x) (h2 : RB w A2 y) :
    Calls Try.prog 34 #[.slice A1 x.length c1, .slice A2 y.length c2] w fun e w' => e = .returned (.bool (x == y)) ∧ w = w' := by
  have e1 := run_str h1 c1
  have e2 := run_str h2 c2
  have e3 := str_toList x
  have e4 := str_toList y
  clear h1 h2
  go_enter Try.func34, Try.ntmps34
  go_wp2
  go_ret
  exact ⟨rfl, rfl⟩

/-- A slot holds bytes of the call's own. -/
def ownsV (base : Nat) (bs : List UInt8) : SPred := ⟨fun v w => OB w base v bs, fun _ _ _ h hE => h.below hE⟩
end Go.Proofs.Ytjfggfmhchoobaa
