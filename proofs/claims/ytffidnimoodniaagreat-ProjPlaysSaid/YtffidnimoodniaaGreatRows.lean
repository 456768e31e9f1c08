/-
  No cell of these rows narrows 'for every input' (looked for: loops, veiled, ifaces, maps, wideKeys, modest, calm, conditions, laid).
  DERIVED. THE GIVEN ROWS OF THIS SEAT. 5 by the template 'for every input the law returns true; each argument reads behind the call as it read before'; 0 by the template 'total and deterministic' (their statements: YtffidnimoodniaaGreatTotals.lean).
  GIVEN WITH THE SEED: the statements are not yours to turn. If you find one false, say at which input.
  Laid BY PROGRAM, IN A SANDBOX (cutbox-rows.mjs): the forced cells as the released guide's own fill.sh prints them over the translation cf2b8ff635010dab… (all of the seat's roots in one cut). By AI agents, Wed Nov 11 2026. No macro, syntax, notation, axiom, sorry.
-/
import Derived.Test.YtffidnimoodniaaGreatChecked
import GoSem.Claim
import GoSem.ClaimJoined
import GoSem.ClaimMapViews
import Derived.JoinedTies
import Derived.KernelRfl
namespace Go.Proofs.YtffidnimoodniaaGreat
/- THE CELL 'sum', in the pinned program and in every row, IS THE sha256 OF THE DUMP (.gsa) THAT YtffidnimoodniaaGreatProg.lean LOADS. Nothing in Lean hashes anything: it is a label: what it is worth is what the hold of that sum in a sandbox is worth. -/
noncomputable def Tryz.pinned : Pinned := { name := "ytffidnimoodniaagreat", sum := "cf2b8ff635010dabe8cecb6a35f87ff5c2aed716db2b794b6db7b4bb218c5288", checked := Tryz.checked }
namespace Rows
def none {H : Type} : Left H := { results := [], args := [] }

/-- 'registrarlaw16.ProjOne': WHATEVER THE INPUT: true; the input reads as it did. -/
def projOneSpec : ChangeSpec := { name := "projOne", fn := fun _ => fun
  | [d1, d2, d3] => { results := [.lit (.bool true)], args := [d1, d2, d3] }
  | _ => none }
def projOneRow : OpenClaim := { program := "ytffidnimoodniaagreat", sum := "cf2b8ff635010dabe8cecb6a35f87ff5c2aed716db2b794b6db7b4bb218c5288", func := "registrar/registrarlaw16.ProjOne", spec := "projOne", inPlace := ["internal/bytealg.IndexByteString", "internal/bytealg.IndexString", "maps.clone"], unfollowed := true, recurses := true, named := ["internal/bytealg.MaxLen"], apart := false }
def ProjOneSaid : Prop := projOneRow.holds Tryz.pinned (OpenSpec.ofChange projOneSpec)

/-- ITS FALSE NEIGHBOUR: 'it returns false'. Refute it at one input. -/
def projOneWrong : ChangeSpec := { name := "projOne", fn := fun _ => fun
  | [d1, d2, d3] => { results := [.lit (.bool false)], args := [d1, d2, d3] }
  | _ => none }
def ProjOneWrongFalsely : Prop := projOneRow.holds Tryz.pinned (OpenSpec.ofChange projOneWrong)

/-- 'registrarlaw16.ProjParts': WHATEVER THE INPUT: true; the input reads as it did. -/
def projPartsSpec : ChangeSpec := { name := "projParts", fn := fun _ => fun
  | [d1, d2, d3] => { results := [.lit (.bool true)], args := [d1, d2, d3] }
  | _ => none }
def projPartsRow : OpenClaim := { program := "ytffidnimoodniaagreat", sum := "cf2b8ff635010dabe8cecb6a35f87ff5c2aed716db2b794b6db7b4bb218c5288", func := "registrar/registrarlaw16.ProjParts", spec := "projParts", inPlace := ["internal/bytealg.IndexByteString", "internal/bytealg.IndexString", "maps.clone"], unfollowed := true, recurses := true, named := ["internal/bytealg.MaxLen"], apart := false }
def ProjPartsSaid : Prop := projPartsRow.holds Tryz.pinned (OpenSpec.ofChange projPartsSpec)

/-- ITS FALSE NEIGHBOUR: 'it returns false'. Refute it at one input. -/
def projPartsWrong : ChangeSpec := { name := "projParts", fn := fun _ => fun
  | [d1, d2, d3] => { results := [.lit (.bool false)], args := [d1, d2, d3] }
  | _ => none }
def ProjPartsWrongFalsely : Prop := projPartsRow.holds Tryz.pinned (OpenSpec.ofChange projPartsWrong)

/-- 'registrarlaw16.ProjPlays': WHATEVER THE INPUT: true; the input reads as it did. -/
def projPlaysSpec : ChangeSpec := { name := "projPlays", fn := fun _ => fun
  | [d1, d2, d3] => { results := [.lit (.bool true)], args := [d1, d2, d3] }
  | _ => none }
def projPlaysRow : OpenClaim := { program := "ytffidnimoodniaagreat", sum := "cf2b8ff635010dabe8cecb6a35f87ff5c2aed716db2b794b6db7b4bb218c5288", func := "registrar/registrarlaw16.ProjPlays", spec := "projPlays", inPlace := ["internal/bytealg.IndexByteString", "internal/bytealg.IndexString", "maps.clone"], unfollowed := true, recurses := true, named := ["internal/bytealg.MaxLen"], apart := false }
def ProjPlaysSaid : Prop := projPlaysRow.holds Tryz.pinned (OpenSpec.ofChange projPlaysSpec)

/-- ITS FALSE NEIGHBOUR: 'it returns false'. Refute it at one input. -/
def projPlaysWrong : ChangeSpec := { name := "projPlays", fn := fun _ => fun
  | [d1, d2, d3] => { results := [.lit (.bool false)], args := [d1, d2, d3] }
  | _ => none }
def ProjPlaysWrongFalsely : Prop := projPlaysRow.holds Tryz.pinned (OpenSpec.ofChange projPlaysWrong)

/-- 'registrarlaw16.ProjBack': WHATEVER THE INPUT: true; the input reads as it did. -/
def projBackSpec : ChangeSpec := { name := "projBack", fn := fun _ => fun
  | [d1, d2, d3] => { results := [.lit (.bool true)], args := [d1, d2, d3] }
  | _ => none }
def projBackRow : OpenClaim := { program := "ytffidnimoodniaagreat", sum := "cf2b8ff635010dabe8cecb6a35f87ff5c2aed716db2b794b6db7b4bb218c5288", func := "registrar/registrarlaw16.ProjBack", spec := "projBack", inPlace := ["internal/bytealg.IndexByteString", "internal/bytealg.IndexString", "maps.clone"], unfollowed := true, recurses := true, named := ["internal/bytealg.MaxLen"], apart := false }
def ProjBackSaid : Prop := projBackRow.holds Tryz.pinned (OpenSpec.ofChange projBackSpec)

/-- ITS FALSE NEIGHBOUR: 'it returns false'. Refute it at one input. -/
def projBackWrong : ChangeSpec := { name := "projBack", fn := fun _ => fun
  | [d1, d2, d3] => { results := [.lit (.bool false)], args := [d1, d2, d3] }
  | _ => none }
def ProjBackWrongFalsely : Prop := projBackRow.holds Tryz.pinned (OpenSpec.ofChange projBackWrong)

/-- 'registrarlaw16.ProjNone': WHATEVER THE INPUT: true; the input reads as it did. -/
def projNoneSpec : ChangeSpec := { name := "projNone", fn := fun _ => fun
  | [d1, d2, d3] => { results := [.lit (.bool true)], args := [d1, d2, d3] }
  | _ => none }
def projNoneRow : OpenClaim := { program := "ytffidnimoodniaagreat", sum := "cf2b8ff635010dabe8cecb6a35f87ff5c2aed716db2b794b6db7b4bb218c5288", func := "registrar/registrarlaw16.ProjNone", spec := "projNone", inPlace := ["internal/bytealg.IndexByteString", "internal/bytealg.IndexString", "maps.clone"], unfollowed := true, recurses := true, named := ["internal/bytealg.MaxLen"], apart := false }
def ProjNoneSaid : Prop := projNoneRow.holds Tryz.pinned (OpenSpec.ofChange projNoneSpec)

/-- ITS FALSE NEIGHBOUR: 'it returns false'. Refute it at one input. -/
def projNoneWrong : ChangeSpec := { name := "projNone", fn := fun _ => fun
  | [d1, d2, d3] => { results := [.lit (.bool false)], args := [d1, d2, d3] }
  | _ => none }
def ProjNoneWrongFalsely : Prop := projNoneRow.holds Tryz.pinned (OpenSpec.ofChange projNoneWrong)

/- THE SECOND FORM. 'bulk': how many values and letters a reading holds, each counted each time it is reached (what is shared counts as often as it is met; a slice's spare places count too). A statement '..UptoSaid' is the law's where the arguments, and the package variables that the reading takes, are together of bulk at most 1048576: NARROWER than '..Said'. Prove '..Said' where nothing that the law and all that it calls make is longer than what came in: it says more and counts as full. Else prove '..UptoSaid'. A law counts once. -/
mutual
def uptoBulk {H : Type} : DataW H → Nat
  | .lit (.string bytes) => bytes.length + 1
  | .lit _ => 1
  | .nil => 1
  | .ptr d => uptoBulk d + 1
  | .slice elems spare => uptoBulkAll elems + uptoBulkAll spare + 1
  | .agg parts => uptoBulkAll parts + 1
  | .iface _ d => uptoBulk d + 1
  | .map entries => uptoBulkEntries entries + 1
  | .held _ => 1
def uptoBulkAll {H : Type} : List (DataW H) → Nat
  | [] => 0
  | d :: r => uptoBulk d + uptoBulkAll r
def uptoBulkEntries {H : Type} : List (Lit × DataW H) → Nat
  | [] => 0
  | x :: r => uptoBulkEntry x + uptoBulkEntries r
def uptoBulkEntry {H : Type} : Lit × DataW H → Nat
  | (.string bytes, d) => bytes.length + uptoBulk d + 1
  | (_, d) => uptoBulk d + 1
 end
def uptoSmall : (H : Type) → List (DataW H) → Bool := fun _ ds => decide (uptoBulkAll ds ≤ 1048576)
def OpenSpec.upto (s : _root_.Go.ChangeSpec) : _root_.Go.OpenSpec := { _root_.Go.OpenSpec.ofChange s with cond := some uptoSmall }

/-- 'registrarlaw16.ProjOne', WHERE WHAT IT READS IS OF BULK AT MOST 1048576: true; the input reads as it did. -/
def projOneUptoRow : OpenClaim := { program := "ytffidnimoodniaagreat", sum := "cf2b8ff635010dabe8cecb6a35f87ff5c2aed716db2b794b6db7b4bb218c5288", func := "registrar/registrarlaw16.ProjOne", spec := "projOne", inPlace := ["internal/bytealg.IndexByteString", "internal/bytealg.IndexString", "maps.clone"], unfollowed := true, recurses := true, named := ["internal/bytealg.MaxLen"], apart := false, narrowed := true }
def ProjOneUptoSaid : Prop := projOneUptoRow.holds Tryz.pinned (OpenSpec.upto projOneSpec)

/-- 'registrarlaw16.ProjParts', WHERE WHAT IT READS IS OF BULK AT MOST 1048576: true; the input reads as it did. -/
def projPartsUptoRow : OpenClaim := { program := "ytffidnimoodniaagreat", sum := "cf2b8ff635010dabe8cecb6a35f87ff5c2aed716db2b794b6db7b4bb218c5288", func := "registrar/registrarlaw16.ProjParts", spec := "projParts", inPlace := ["internal/bytealg.IndexByteString", "internal/bytealg.IndexString", "maps.clone"], unfollowed := true, recurses := true, named := ["internal/bytealg.MaxLen"], apart := false, narrowed := true }
def ProjPartsUptoSaid : Prop := projPartsUptoRow.holds Tryz.pinned (OpenSpec.upto projPartsSpec)

/-- 'registrarlaw16.ProjPlays', WHERE WHAT IT READS IS OF BULK AT MOST 1048576: true; the input reads as it did. -/
def projPlaysUptoRow : OpenClaim := { program := "ytffidnimoodniaagreat", sum := "cf2b8ff635010dabe8cecb6a35f87ff5c2aed716db2b794b6db7b4bb218c5288", func := "registrar/registrarlaw16.ProjPlays", spec := "projPlays", inPlace := ["internal/bytealg.IndexByteString", "internal/bytealg.IndexString", "maps.clone"], unfollowed := true, recurses := true, named := ["internal/bytealg.MaxLen"], apart := false, narrowed := true }
def ProjPlaysUptoSaid : Prop := projPlaysUptoRow.holds Tryz.pinned (OpenSpec.upto projPlaysSpec)

/-- 'registrarlaw16.ProjBack', WHERE WHAT IT READS IS OF BULK AT MOST 1048576: true; the input reads as it did. -/
def projBackUptoRow : OpenClaim := { program := "ytffidnimoodniaagreat", sum := "cf2b8ff635010dabe8cecb6a35f87ff5c2aed716db2b794b6db7b4bb218c5288", func := "registrar/registrarlaw16.ProjBack", spec := "projBack", inPlace := ["internal/bytealg.IndexByteString", "internal/bytealg.IndexString", "maps.clone"], unfollowed := true, recurses := true, named := ["internal/bytealg.MaxLen"], apart := false, narrowed := true }
def ProjBackUptoSaid : Prop := projBackUptoRow.holds Tryz.pinned (OpenSpec.upto projBackSpec)

/-- 'registrarlaw16.ProjNone', WHERE WHAT IT READS IS OF BULK AT MOST 1048576: true; the input reads as it did. -/
def projNoneUptoRow : OpenClaim := { program := "ytffidnimoodniaagreat", sum := "cf2b8ff635010dabe8cecb6a35f87ff5c2aed716db2b794b6db7b4bb218c5288", func := "registrar/registrarlaw16.ProjNone", spec := "projNone", inPlace := ["internal/bytealg.IndexByteString", "internal/bytealg.IndexString", "maps.clone"], unfollowed := true, recurses := true, named := ["internal/bytealg.MaxLen"], apart := false, narrowed := true }
def ProjNoneUptoSaid : Prop := projNoneUptoRow.holds Tryz.pinned (OpenSpec.upto projNoneSpec)

end Rows
end Go.Proofs.YtffidnimoodniaaGreat
