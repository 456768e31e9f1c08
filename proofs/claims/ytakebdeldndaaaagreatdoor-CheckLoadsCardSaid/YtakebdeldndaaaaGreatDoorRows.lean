/-
  NARROWER THAN 'FOR EVERY INPUT', by the rows' own cells (each row's printed sentence says how): CheckCleans: laid · CheckLoads: laid · CheckCrash: laid · CheckSaves: laid · CheckAgain: laid.
  DERIVED. THE GIVEN ROWS OF THIS SEAT. 5 by the template 'for every input the law returns true; each argument reads behind the call as it read before'; 0 by the template 'total and deterministic' (their statements: YtakebdeldndaaaaGreatDoorTotals.lean).
  GIVEN WITH THE SEED: the statements are not yours to turn. If you find one false, say at which input.
  Laid BY PROGRAM, IN A SANDBOX (cutbox-rows.mjs): the forced cells as the released guide's own fill.sh prints them over the translation e22368d36ae9c837… (all of the seat's roots in one cut). By AI agents, Wed Nov 11 2026. No macro, syntax, notation, axiom, sorry.
-/
import Derived.Test.YtakebdeldndaaaaGreatDoorChecked
import GoSem.PinnedTables
import GoSem.Claim
import GoSem.ClaimJoined
import GoSem.ClaimMapViews
import Derived.JoinedTies
import Derived.KernelRfl
namespace Go.Proofs.YtakebdeldndaaaaGreatDoor
/- THE CELL 'sum', in the pinned program and in every row, IS THE sha256 OF THE DUMP (.gsa) THAT YtakebdeldndaaaaGreatDoorProg.lean LOADS. Nothing in Lean hashes anything: it is a label: what it is worth is what the hold of that sum in a sandbox is worth. -/
noncomputable def Tryz.pinned : Pinned := { name := "ytakebdeldndaaaagreatdoor", sum := "e22368d36ae9c837257a5870c7c81f9074b733016adb57a4f1a828c3fa1f4bb5", checked := Tryz.checked }
namespace Rows
def none {H : Type} : Left H := { results := [], args := [] }

/- WHAT THE LISTED PACKAGE-LEVEL VARIABLES READ AS WHEN THE CALL BEGINS. Each datum BY PROGRAM (the guide's laid-datum.mjs) off the statement by which the dump's own 'gosem.cut.vars' lays the variable. In a bare row this is a premise. The card (YtakebdeldndaaaaGreatDoorCards.lean) ties it to the program's text. -/
def laid_unicode_utf8_acceptRanges {H : Type} : DataW H := .agg [.agg [.lit (.int .u8 128), .lit (.int .u8 191)], .agg [.lit (.int .u8 160), .lit (.int .u8 191)], .agg [.lit (.int .u8 128), .lit (.int .u8 159)], .agg [.lit (.int .u8 144), .lit (.int .u8 191)], .agg [.lit (.int .u8 128), .lit (.int .u8 143)], .agg [.lit (.int .u8 0), .lit (.int .u8 0)], .agg [.lit (.int .u8 0), .lit (.int .u8 0)], .agg [.lit (.int .u8 0), .lit (.int .u8 0)], .agg [.lit (.int .u8 0), .lit (.int .u8 0)], .agg [.lit (.int .u8 0), .lit (.int .u8 0)], .agg [.lit (.int .u8 0), .lit (.int .u8 0)], .agg [.lit (.int .u8 0), .lit (.int .u8 0)], .agg [.lit (.int .u8 0), .lit (.int .u8 0)], .agg [.lit (.int .u8 0), .lit (.int .u8 0)], .agg [.lit (.int .u8 0), .lit (.int .u8 0)], .agg [.lit (.int .u8 0), .lit (.int .u8 0)]]
/-- One of Go's own tables, pinned by name: the form's constant. -/
def laid_unicode_utf8_first : DataW Unit := Go.Pinned.utf8First

/-- 'registrarlaw17.CheckCleans': WHATEVER THE INPUT: true; the input reads as it did. -/
def checkCleansSpec : ChangeSpec := { name := "checkCleans", fn := fun _ => fun
  | [d1, d2, d3] => { results := [.lit (.bool true)], args := [d1, d2, d3] }
  | _ => none }
def checkCleansRow : OpenClaim := { program := "ytakebdeldndaaaagreatdoor", sum := "e22368d36ae9c837257a5870c7c81f9074b733016adb57a4f1a828c3fa1f4bb5", func := "registrar/registrarlaw17.CheckCleans", spec := "checkCleans", inPlace := ["internal/bytealg.IndexByteString", "internal/bytealg.IndexString", "maps.clone"], unfollowed := true, recurses := true, named := ["internal/bytealg.MaxLen", "unicode/utf8.first", "unicode/utf8.acceptRanges"], apart := false, laid := [("unicode/utf8.acceptRanges", laid_unicode_utf8_acceptRanges), ("unicode/utf8.first", laid_unicode_utf8_first)] }
def CheckCleansSaid : Prop := checkCleansRow.holds Tryz.pinned (OpenSpec.ofChange checkCleansSpec)

/-- ITS FALSE NEIGHBOUR: 'it returns false'. Refute it at one input. -/
def checkCleansWrong : ChangeSpec := { name := "checkCleans", fn := fun _ => fun
  | [d1, d2, d3] => { results := [.lit (.bool false)], args := [d1, d2, d3] }
  | _ => none }
def CheckCleansWrongFalsely : Prop := checkCleansRow.holds Tryz.pinned (OpenSpec.ofChange checkCleansWrong)

/-- 'registrarlaw17.CheckLoads': WHATEVER THE INPUT: true; the input reads as it did. -/
def checkLoadsSpec : ChangeSpec := { name := "checkLoads", fn := fun _ => fun
  | [d1, d2, d3] => { results := [.lit (.bool true)], args := [d1, d2, d3] }
  | _ => none }
def checkLoadsRow : OpenClaim := { program := "ytakebdeldndaaaagreatdoor", sum := "e22368d36ae9c837257a5870c7c81f9074b733016adb57a4f1a828c3fa1f4bb5", func := "registrar/registrarlaw17.CheckLoads", spec := "checkLoads", inPlace := ["internal/bytealg.IndexByteString", "internal/bytealg.IndexString", "maps.clone"], unfollowed := true, recurses := true, named := ["internal/bytealg.MaxLen", "unicode/utf8.first", "unicode/utf8.acceptRanges"], apart := false, laid := [("unicode/utf8.acceptRanges", laid_unicode_utf8_acceptRanges), ("unicode/utf8.first", laid_unicode_utf8_first)] }
def CheckLoadsSaid : Prop := checkLoadsRow.holds Tryz.pinned (OpenSpec.ofChange checkLoadsSpec)

/-- ITS FALSE NEIGHBOUR: 'it returns false'. Refute it at one input. -/
def checkLoadsWrong : ChangeSpec := { name := "checkLoads", fn := fun _ => fun
  | [d1, d2, d3] => { results := [.lit (.bool false)], args := [d1, d2, d3] }
  | _ => none }
def CheckLoadsWrongFalsely : Prop := checkLoadsRow.holds Tryz.pinned (OpenSpec.ofChange checkLoadsWrong)

/-- 'registrarlaw17.CheckCrash': WHATEVER THE INPUT: true; the input reads as it did. -/
def checkCrashSpec : ChangeSpec := { name := "checkCrash", fn := fun _ => fun
  | [d1, d2, d3] => { results := [.lit (.bool true)], args := [d1, d2, d3] }
  | _ => none }
def checkCrashRow : OpenClaim := { program := "ytakebdeldndaaaagreatdoor", sum := "e22368d36ae9c837257a5870c7c81f9074b733016adb57a4f1a828c3fa1f4bb5", func := "registrar/registrarlaw17.CheckCrash", spec := "checkCrash", inPlace := ["internal/bytealg.IndexByteString", "internal/bytealg.IndexString", "maps.clone"], unfollowed := true, recurses := true, named := ["internal/bytealg.MaxLen", "unicode/utf8.first", "unicode/utf8.acceptRanges"], apart := false, laid := [("unicode/utf8.acceptRanges", laid_unicode_utf8_acceptRanges), ("unicode/utf8.first", laid_unicode_utf8_first)] }
def CheckCrashSaid : Prop := checkCrashRow.holds Tryz.pinned (OpenSpec.ofChange checkCrashSpec)

/-- ITS FALSE NEIGHBOUR: 'it returns false'. Refute it at one input. -/
def checkCrashWrong : ChangeSpec := { name := "checkCrash", fn := fun _ => fun
  | [d1, d2, d3] => { results := [.lit (.bool false)], args := [d1, d2, d3] }
  | _ => none }
def CheckCrashWrongFalsely : Prop := checkCrashRow.holds Tryz.pinned (OpenSpec.ofChange checkCrashWrong)

/-- 'registrarlaw17.CheckSaves': WHATEVER THE INPUT: true; the input reads as it did. -/
def checkSavesSpec : ChangeSpec := { name := "checkSaves", fn := fun _ => fun
  | [d1, d2, d3] => { results := [.lit (.bool true)], args := [d1, d2, d3] }
  | _ => none }
def checkSavesRow : OpenClaim := { program := "ytakebdeldndaaaagreatdoor", sum := "e22368d36ae9c837257a5870c7c81f9074b733016adb57a4f1a828c3fa1f4bb5", func := "registrar/registrarlaw17.CheckSaves", spec := "checkSaves", inPlace := ["internal/bytealg.IndexByteString", "internal/bytealg.IndexString", "maps.clone"], unfollowed := true, recurses := true, named := ["internal/bytealg.MaxLen", "unicode/utf8.first", "unicode/utf8.acceptRanges"], apart := false, laid := [("unicode/utf8.acceptRanges", laid_unicode_utf8_acceptRanges), ("unicode/utf8.first", laid_unicode_utf8_first)] }
def CheckSavesSaid : Prop := checkSavesRow.holds Tryz.pinned (OpenSpec.ofChange checkSavesSpec)

/-- ITS FALSE NEIGHBOUR: 'it returns false'. Refute it at one input. -/
def checkSavesWrong : ChangeSpec := { name := "checkSaves", fn := fun _ => fun
  | [d1, d2, d3] => { results := [.lit (.bool false)], args := [d1, d2, d3] }
  | _ => none }
def CheckSavesWrongFalsely : Prop := checkSavesRow.holds Tryz.pinned (OpenSpec.ofChange checkSavesWrong)

/-- 'registrarlaw17.CheckAgain': WHATEVER THE INPUT: true; the input reads as it did. -/
def checkAgainSpec : ChangeSpec := { name := "checkAgain", fn := fun _ => fun
  | [d1, d2, d3] => { results := [.lit (.bool true)], args := [d1, d2, d3] }
  | _ => none }
def checkAgainRow : OpenClaim := { program := "ytakebdeldndaaaagreatdoor", sum := "e22368d36ae9c837257a5870c7c81f9074b733016adb57a4f1a828c3fa1f4bb5", func := "registrar/registrarlaw17.CheckAgain", spec := "checkAgain", inPlace := ["internal/bytealg.IndexByteString", "internal/bytealg.IndexString", "maps.clone"], unfollowed := true, recurses := true, named := ["internal/bytealg.MaxLen", "unicode/utf8.first", "unicode/utf8.acceptRanges"], apart := false, laid := [("unicode/utf8.acceptRanges", laid_unicode_utf8_acceptRanges), ("unicode/utf8.first", laid_unicode_utf8_first)] }
def CheckAgainSaid : Prop := checkAgainRow.holds Tryz.pinned (OpenSpec.ofChange checkAgainSpec)

/-- ITS FALSE NEIGHBOUR: 'it returns false'. Refute it at one input. -/
def checkAgainWrong : ChangeSpec := { name := "checkAgain", fn := fun _ => fun
  | [d1, d2, d3] => { results := [.lit (.bool false)], args := [d1, d2, d3] }
  | _ => none }
def CheckAgainWrongFalsely : Prop := checkAgainRow.holds Tryz.pinned (OpenSpec.ofChange checkAgainWrong)

/- THE SECOND FORM. 'bulk': how many values and letters a reading holds, each counted each time it is reached (what is shared counts as often as it is met; a slice's spare places count too). A statement '..UptoSaid' is the law's where the arguments, and the package variables that the reading takes, are together of bulk at most 1048576: NARROWER than '..Said'. Prove '..Said' where nothing that the law and all that it calls make is longer than what came in: it says more and counts as full. Else prove '..UptoSaid'. A law counts once. -/
mutual
def uptoBulk {H : Type} : DataW H → Nat
  | .lit (.string bytes) => bytes.length + 1
  | .lit _ => 1
  | .nil => 1
  | .ptr d => uptoBulk d + 1
  | .slice elems spare => uptoBulkAll elems + uptoBulkAll spare + 1
  | .agg parts => uptoBulkAll parts + 1
  | .iface _ d => uptoBulk d + 1
  | .map entries => uptoBulkEntries entries + 1
  | .held _ => 1
def uptoBulkAll {H : Type} : List (DataW H) → Nat
  | [] => 0
  | d :: r => uptoBulk d + uptoBulkAll r
def uptoBulkEntries {H : Type} : List (Lit × DataW H) → Nat
  | [] => 0
  | x :: r => uptoBulkEntry x + uptoBulkEntries r
def uptoBulkEntry {H : Type} : Lit × DataW H → Nat
  | (.string bytes, d) => bytes.length + uptoBulk d + 1
  | (_, d) => uptoBulk d + 1
 end
def uptoSmall : (H : Type) → List (DataW H) → Bool := fun _ ds => decide (uptoBulkAll ds ≤ 1048576)
def OpenSpec.upto (s : _root_.Go.ChangeSpec) : _root_.Go.OpenSpec := { _root_.Go.OpenSpec.ofChange s with cond := some uptoSmall }

/-- 'registrarlaw17.CheckCleans', WHERE WHAT IT READS IS OF BULK AT MOST 1048576: true; the input reads as it did. -/
def checkCleansUptoRow : OpenClaim := { program := "ytakebdeldndaaaagreatdoor", sum := "e22368d36ae9c837257a5870c7c81f9074b733016adb57a4f1a828c3fa1f4bb5", func := "registrar/registrarlaw17.CheckCleans", spec := "checkCleans", inPlace := ["internal/bytealg.IndexByteString", "internal/bytealg.IndexString", "maps.clone"], unfollowed := true, recurses := true, named := ["internal/bytealg.MaxLen", "unicode/utf8.first", "unicode/utf8.acceptRanges"], apart := false, laid := [("unicode/utf8.acceptRanges", laid_unicode_utf8_acceptRanges), ("unicode/utf8.first", laid_unicode_utf8_first)], narrowed := true }
def CheckCleansUptoSaid : Prop := checkCleansUptoRow.holds Tryz.pinned (OpenSpec.upto checkCleansSpec)

/-- 'registrarlaw17.CheckLoads', WHERE WHAT IT READS IS OF BULK AT MOST 1048576: true; the input reads as it did. -/
def checkLoadsUptoRow : OpenClaim := { program := "ytakebdeldndaaaagreatdoor", sum := "e22368d36ae9c837257a5870c7c81f9074b733016adb57a4f1a828c3fa1f4bb5", func := "registrar/registrarlaw17.CheckLoads", spec := "checkLoads", inPlace := ["internal/bytealg.IndexByteString", "internal/bytealg.IndexString", "maps.clone"], unfollowed := true, recurses := true, named := ["internal/bytealg.MaxLen", "unicode/utf8.first", "unicode/utf8.acceptRanges"], apart := false, laid := [("unicode/utf8.acceptRanges", laid_unicode_utf8_acceptRanges), ("unicode/utf8.first", laid_unicode_utf8_first)], narrowed := true }
def CheckLoadsUptoSaid : Prop := checkLoadsUptoRow.holds Tryz.pinned (OpenSpec.upto checkLoadsSpec)

/-- 'registrarlaw17.CheckCrash', WHERE WHAT IT READS IS OF BULK AT MOST 1048576: true; the input reads as it did. -/
def checkCrashUptoRow : OpenClaim := { program := "ytakebdeldndaaaagreatdoor", sum := "e22368d36ae9c837257a5870c7c81f9074b733016adb57a4f1a828c3fa1f4bb5", func := "registrar/registrarlaw17.CheckCrash", spec := "checkCrash", inPlace := ["internal/bytealg.IndexByteString", "internal/bytealg.IndexString", "maps.clone"], unfollowed := true, recurses := true, named := ["internal/bytealg.MaxLen", "unicode/utf8.first", "unicode/utf8.acceptRanges"], apart := false, laid := [("unicode/utf8.acceptRanges", laid_unicode_utf8_acceptRanges), ("unicode/utf8.first", laid_unicode_utf8_first)], narrowed := true }
def CheckCrashUptoSaid : Prop := checkCrashUptoRow.holds Tryz.pinned (OpenSpec.upto checkCrashSpec)

/-- 'registrarlaw17.CheckSaves', WHERE WHAT IT READS IS OF BULK AT MOST 1048576: true; the input reads as it did. -/
def checkSavesUptoRow : OpenClaim := { program := "ytakebdeldndaaaagreatdoor", sum := "e22368d36ae9c837257a5870c7c81f9074b733016adb57a4f1a828c3fa1f4bb5", func := "registrar/registrarlaw17.CheckSaves", spec := "checkSaves", inPlace := ["internal/bytealg.IndexByteString", "internal/bytealg.IndexString", "maps.clone"], unfollowed := true, recurses := true, named := ["internal/bytealg.MaxLen", "unicode/utf8.first", "unicode/utf8.acceptRanges"], apart := false, laid := [("unicode/utf8.acceptRanges", laid_unicode_utf8_acceptRanges), ("unicode/utf8.first", laid_unicode_utf8_first)], narrowed := true }
def CheckSavesUptoSaid : Prop := checkSavesUptoRow.holds Tryz.pinned (OpenSpec.upto checkSavesSpec)

/-- 'registrarlaw17.CheckAgain', WHERE WHAT IT READS IS OF BULK AT MOST 1048576: true; the input reads as it did. -/
def checkAgainUptoRow : OpenClaim := { program := "ytakebdeldndaaaagreatdoor", sum := "e22368d36ae9c837257a5870c7c81f9074b733016adb57a4f1a828c3fa1f4bb5", func := "registrar/registrarlaw17.CheckAgain", spec := "checkAgain", inPlace := ["internal/bytealg.IndexByteString", "internal/bytealg.IndexString", "maps.clone"], unfollowed := true, recurses := true, named := ["internal/bytealg.MaxLen", "unicode/utf8.first", "unicode/utf8.acceptRanges"], apart := false, laid := [("unicode/utf8.acceptRanges", laid_unicode_utf8_acceptRanges), ("unicode/utf8.first", laid_unicode_utf8_first)], narrowed := true }
def CheckAgainUptoSaid : Prop := checkAgainUptoRow.holds Tryz.pinned (OpenSpec.upto checkAgainSpec)

end Rows
end Go.Proofs.YtakebdeldndaaaaGreatDoor
