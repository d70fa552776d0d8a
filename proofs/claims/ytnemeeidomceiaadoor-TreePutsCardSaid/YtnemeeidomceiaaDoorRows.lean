/-
  NARROWER THAN 'FOR EVERY INPUT', by the rows' own cells (each row's printed sentence says how): TreeBuilds: laid · TreeBack: loops, laid · TreeFirst: laid · TreeGets: loops, laid · TreePuts: loops, laid · TreePutGet: loops, laid · TreeKeeps: loops, laid.
  DERIVED. THE GIVEN ROWS OF THIS SEAT. 7 by the template 'for every input the law returns true; each argument reads behind the call as it read before'; 0 by the template 'total and deterministic' (their statements: YtnemeeidomceiaaDoorTotals.lean).
  GIVEN WITH THE SEED: the statements are not yours to turn. If you find one false, say at which input.
  Laid BY PROGRAM, IN A SANDBOX (cutbox-rows.mjs): the forced cells as the released guide's own fill.sh prints them over the translation 33546d9a04e9bdc1… (all of the seat's roots in one cut). By AI agents, Wed Nov 11 2026. No macro, syntax, notation, axiom, sorry.
-/
import Derived.Test.YtnemeeidomceiaaDoorChecked
import GoSem.PinnedTables
import GoSem.Claim
import GoSem.ClaimJoined
import GoSem.ClaimMapViews
import Derived.JoinedTies
import Derived.KernelRfl
namespace Go.Proofs.YtnemeeidomceiaaDoor
/- THE CELL 'sum', in the pinned program and in every row, IS THE sha256 OF THE DUMP (.gsa) THAT YtnemeeidomceiaaDoorProg.lean LOADS. Nothing in Lean hashes anything: it is a label: what it is worth is what the hold of that sum in a sandbox is worth. -/
noncomputable def Tryd.pinned : Pinned := { name := "ytnemeeidomceiaadoor", sum := "33546d9a04e9bdc181cf3a7538c675b5d61dab99141eb7cd26028bab7c98994d", checked := Tryd.checked }
namespace Rows
def none {H : Type} : Left H := { results := [], args := [] }

/- WHAT THE LISTED PACKAGE-LEVEL VARIABLES READ AS WHEN THE CALL BEGINS. Each datum BY PROGRAM (the guide's laid-datum.mjs) off the statement by which the dump's own 'gosem.cut.vars' lays the variable. In a bare row this is a premise. The card (YtnemeeidomceiaaDoorCards.lean) ties it to the program's text. -/
def laid_unicode_utf8_acceptRanges {H : Type} : DataW H := .agg [.agg [.lit (.int .u8 128), .lit (.int .u8 191)], .agg [.lit (.int .u8 160), .lit (.int .u8 191)], .agg [.lit (.int .u8 128), .lit (.int .u8 159)], .agg [.lit (.int .u8 144), .lit (.int .u8 191)], .agg [.lit (.int .u8 128), .lit (.int .u8 143)], .agg [.lit (.int .u8 0), .lit (.int .u8 0)], .agg [.lit (.int .u8 0), .lit (.int .u8 0)], .agg [.lit (.int .u8 0), .lit (.int .u8 0)], .agg [.lit (.int .u8 0), .lit (.int .u8 0)], .agg [.lit (.int .u8 0), .lit (.int .u8 0)], .agg [.lit (.int .u8 0), .lit (.int .u8 0)], .agg [.lit (.int .u8 0), .lit (.int .u8 0)], .agg [.lit (.int .u8 0), .lit (.int .u8 0)], .agg [.lit (.int .u8 0), .lit (.int .u8 0)], .agg [.lit (.int .u8 0), .lit (.int .u8 0)], .agg [.lit (.int .u8 0), .lit (.int .u8 0)]]
/-- One of Go's own tables, pinned by name: the form's constant. -/
def laid_unicode_utf8_first : DataW Unit := Go.Pinned.utf8First

/-- 'depotlaw06.TreeBuilds': WHATEVER THE INPUT: true; the input reads as it did. -/
def treeBuildsSpec : ChangeSpec := { name := "treeBuilds", fn := fun _ => fun
  | [d] => { results := [.lit (.bool true)], args := [d] }
  | _ => none }
def treeBuildsRow : OpenClaim := { program := "ytnemeeidomceiaadoor", sum := "33546d9a04e9bdc181cf3a7538c675b5d61dab99141eb7cd26028bab7c98994d", func := "depot/depotlaw06.TreeBuilds", spec := "treeBuilds", inPlace := ["internal/bytealg.IndexByteString", "internal/bytealg.IndexString"], unfollowed := true, recurses := true, named := ["unicode/utf8.first", "unicode/utf8.acceptRanges", "internal/bytealg.MaxLen"], apart := false, laid := [("unicode/utf8.acceptRanges", laid_unicode_utf8_acceptRanges), ("unicode/utf8.first", laid_unicode_utf8_first)] }
def TreeBuildsSaid : Prop := treeBuildsRow.holds Tryd.pinned (OpenSpec.ofChange treeBuildsSpec)

/-- ITS FALSE NEIGHBOUR: 'it returns false'. Refute it at one input. -/
def treeBuildsWrong : ChangeSpec := { name := "treeBuilds", fn := fun _ => fun
  | [d] => { results := [.lit (.bool false)], args := [d] }
  | _ => none }
def TreeBuildsWrongFalsely : Prop := treeBuildsRow.holds Tryd.pinned (OpenSpec.ofChange treeBuildsWrong)

/-- 'depotlaw06.TreeBack': WHATEVER THE INPUT: true; the input reads as it did. -/
def treeBackSpec : ChangeSpec := { name := "treeBack", fn := fun _ => fun
  | [d1, d2] => { results := [.lit (.bool true)], args := [d1, d2] }
  | _ => none }
def treeBackRow : OpenClaim := { program := "ytnemeeidomceiaadoor", sum := "33546d9a04e9bdc181cf3a7538c675b5d61dab99141eb7cd26028bab7c98994d", func := "depot/depotlaw06.TreeBack", spec := "treeBack", inPlace := ["internal/bytealg.IndexByteString", "internal/bytealg.IndexString"], unfollowed := true, recurses := true, named := ["unicode/utf8.first", "unicode/utf8.acceptRanges", "internal/bytealg.MaxLen"], loops := true, apart := false, laid := [("unicode/utf8.acceptRanges", laid_unicode_utf8_acceptRanges), ("unicode/utf8.first", laid_unicode_utf8_first)] }
def TreeBackSaid : Prop := treeBackRow.holds Tryd.pinned (OpenSpec.ofChange treeBackSpec)

/-- ITS FALSE NEIGHBOUR: 'it returns false'. Refute it at one input. -/
def treeBackWrong : ChangeSpec := { name := "treeBack", fn := fun _ => fun
  | [d1, d2] => { results := [.lit (.bool false)], args := [d1, d2] }
  | _ => none }
def TreeBackWrongFalsely : Prop := treeBackRow.holds Tryd.pinned (OpenSpec.ofChange treeBackWrong)

/-- 'depotlaw06.TreeFirst': WHATEVER THE INPUT: true; the input reads as it did. -/
def treeFirstSpec : ChangeSpec := { name := "treeFirst", fn := fun _ => fun
  | [d] => { results := [.lit (.bool true)], args := [d] }
  | _ => none }
def treeFirstRow : OpenClaim := { program := "ytnemeeidomceiaadoor", sum := "33546d9a04e9bdc181cf3a7538c675b5d61dab99141eb7cd26028bab7c98994d", func := "depot/depotlaw06.TreeFirst", spec := "treeFirst", inPlace := ["internal/bytealg.IndexByteString", "internal/bytealg.IndexString"], unfollowed := true, recurses := true, named := ["unicode/utf8.first", "unicode/utf8.acceptRanges", "internal/bytealg.MaxLen"], apart := false, laid := [("unicode/utf8.acceptRanges", laid_unicode_utf8_acceptRanges), ("unicode/utf8.first", laid_unicode_utf8_first)] }
def TreeFirstSaid : Prop := treeFirstRow.holds Tryd.pinned (OpenSpec.ofChange treeFirstSpec)

/-- ITS FALSE NEIGHBOUR: 'it returns false'. Refute it at one input. -/
def treeFirstWrong : ChangeSpec := { name := "treeFirst", fn := fun _ => fun
  | [d] => { results := [.lit (.bool false)], args := [d] }
  | _ => none }
def TreeFirstWrongFalsely : Prop := treeFirstRow.holds Tryd.pinned (OpenSpec.ofChange treeFirstWrong)

/-- 'depotlaw06.TreeGets': WHATEVER THE INPUT: true; the input reads as it did. -/
def treeGetsSpec : ChangeSpec := { name := "treeGets", fn := fun _ => fun
  | [d1, d2] => { results := [.lit (.bool true)], args := [d1, d2] }
  | _ => none }
def treeGetsRow : OpenClaim := { program := "ytnemeeidomceiaadoor", sum := "33546d9a04e9bdc181cf3a7538c675b5d61dab99141eb7cd26028bab7c98994d", func := "depot/depotlaw06.TreeGets", spec := "treeGets", inPlace := ["internal/bytealg.IndexByteString", "internal/bytealg.IndexString", "internal/bytealg.abigen_runtime_cmpstring"], unfollowed := true, recurses := true, named := ["unicode/utf8.first", "unicode/utf8.acceptRanges", "internal/bytealg.MaxLen"], loops := true, apart := false, laid := [("unicode/utf8.acceptRanges", laid_unicode_utf8_acceptRanges), ("unicode/utf8.first", laid_unicode_utf8_first)] }
def TreeGetsSaid : Prop := treeGetsRow.holds Tryd.pinned (OpenSpec.ofChange treeGetsSpec)

/-- ITS FALSE NEIGHBOUR: 'it returns false'. Refute it at one input. -/
def treeGetsWrong : ChangeSpec := { name := "treeGets", fn := fun _ => fun
  | [d1, d2] => { results := [.lit (.bool false)], args := [d1, d2] }
  | _ => none }
def TreeGetsWrongFalsely : Prop := treeGetsRow.holds Tryd.pinned (OpenSpec.ofChange treeGetsWrong)

/-- 'depotlaw06.TreePuts': WHATEVER THE INPUT: true; the input reads as it did. -/
def treePutsSpec : ChangeSpec := { name := "treePuts", fn := fun _ => fun
  | [d1, d2, d3] => { results := [.lit (.bool true)], args := [d1, d2, d3] }
  | _ => none }
def treePutsRow : OpenClaim := { program := "ytnemeeidomceiaadoor", sum := "33546d9a04e9bdc181cf3a7538c675b5d61dab99141eb7cd26028bab7c98994d", func := "depot/depotlaw06.TreePuts", spec := "treePuts", inPlace := ["internal/bytealg.IndexByteString", "internal/bytealg.IndexString", "slices.overlaps[depot/api.Entry]", "internal/bytealg.abigen_runtime_cmpstring"], unfollowed := true, recurses := true, named := ["unicode/utf8.first", "unicode/utf8.acceptRanges", "internal/bytealg.MaxLen"], loops := true, apart := false, laid := [("unicode/utf8.acceptRanges", laid_unicode_utf8_acceptRanges), ("unicode/utf8.first", laid_unicode_utf8_first)] }
def TreePutsSaid : Prop := treePutsRow.holds Tryd.pinned (OpenSpec.ofChange treePutsSpec)

/-- ITS FALSE NEIGHBOUR: 'it returns false'. Refute it at one input. -/
def treePutsWrong : ChangeSpec := { name := "treePuts", fn := fun _ => fun
  | [d1, d2, d3] => { results := [.lit (.bool false)], args := [d1, d2, d3] }
  | _ => none }
def TreePutsWrongFalsely : Prop := treePutsRow.holds Tryd.pinned (OpenSpec.ofChange treePutsWrong)

/-- 'depotlaw06.TreePutGet': WHATEVER THE INPUT: true; the input reads as it did. -/
def treePutGetSpec : ChangeSpec := { name := "treePutGet", fn := fun _ => fun
  | [d1, d2, d3] => { results := [.lit (.bool true)], args := [d1, d2, d3] }
  | _ => none }
def treePutGetRow : OpenClaim := { program := "ytnemeeidomceiaadoor", sum := "33546d9a04e9bdc181cf3a7538c675b5d61dab99141eb7cd26028bab7c98994d", func := "depot/depotlaw06.TreePutGet", spec := "treePutGet", inPlace := ["internal/bytealg.IndexByteString", "internal/bytealg.IndexString", "slices.overlaps[depot/api.Entry]", "internal/bytealg.abigen_runtime_cmpstring"], unfollowed := true, recurses := true, named := ["unicode/utf8.first", "unicode/utf8.acceptRanges", "internal/bytealg.MaxLen"], loops := true, apart := false, laid := [("unicode/utf8.acceptRanges", laid_unicode_utf8_acceptRanges), ("unicode/utf8.first", laid_unicode_utf8_first)] }
def TreePutGetSaid : Prop := treePutGetRow.holds Tryd.pinned (OpenSpec.ofChange treePutGetSpec)

/-- ITS FALSE NEIGHBOUR: 'it returns false'. Refute it at one input. -/
def treePutGetWrong : ChangeSpec := { name := "treePutGet", fn := fun _ => fun
  | [d1, d2, d3] => { results := [.lit (.bool false)], args := [d1, d2, d3] }
  | _ => none }
def TreePutGetWrongFalsely : Prop := treePutGetRow.holds Tryd.pinned (OpenSpec.ofChange treePutGetWrong)

/-- 'depotlaw06.TreeKeeps': WHATEVER THE INPUT: true; the input reads as it did. -/
def treeKeepsSpec : ChangeSpec := { name := "treeKeeps", fn := fun _ => fun
  | [d1, d2, d3] => { results := [.lit (.bool true)], args := [d1, d2, d3] }
  | _ => none }
def treeKeepsRow : OpenClaim := { program := "ytnemeeidomceiaadoor", sum := "33546d9a04e9bdc181cf3a7538c675b5d61dab99141eb7cd26028bab7c98994d", func := "depot/depotlaw06.TreeKeeps", spec := "treeKeeps", inPlace := ["internal/bytealg.IndexByteString", "internal/bytealg.IndexString", "slices.overlaps[depot/api.Entry]", "internal/bytealg.abigen_runtime_cmpstring"], unfollowed := true, recurses := true, named := ["unicode/utf8.first", "unicode/utf8.acceptRanges", "internal/bytealg.MaxLen"], loops := true, apart := false, laid := [("unicode/utf8.acceptRanges", laid_unicode_utf8_acceptRanges), ("unicode/utf8.first", laid_unicode_utf8_first)] }
def TreeKeepsSaid : Prop := treeKeepsRow.holds Tryd.pinned (OpenSpec.ofChange treeKeepsSpec)

/-- ITS FALSE NEIGHBOUR: 'it returns false'. Refute it at one input. -/
def treeKeepsWrong : ChangeSpec := { name := "treeKeeps", fn := fun _ => fun
  | [d1, d2, d3] => { results := [.lit (.bool false)], args := [d1, d2, d3] }
  | _ => none }
def TreeKeepsWrongFalsely : Prop := treeKeepsRow.holds Tryd.pinned (OpenSpec.ofChange treeKeepsWrong)

/- THE SECOND FORM. 'bulk': how many values and letters a reading holds, each counted each time it is reached (what is shared counts as often as it is met; a slice's spare places count too). A statement '..UptoSaid' is the law's where the arguments, and the package variables that the reading takes, are together of bulk at most 1048576: NARROWER than '..Said'. Prove '..Said' where nothing that the law and all that it calls make is longer than what came in: it says more and counts as full. Else prove '..UptoSaid'. A law counts once. -/
mutual
def uptoBulk {H : Type} : DataW H → Nat
  | .lit (.string bytes) => bytes.length + 1
  | .lit _ => 1
  | .nil => 1
  | .ptr d => uptoBulk d + 1
  | .slice elems spare => uptoBulkAll elems + uptoBulkAll spare + 1
  | .agg parts => uptoBulkAll parts + 1
  | .iface _ d => uptoBulk d + 1
  | .map entries => uptoBulkEntries entries + 1
  | .held _ => 1
def uptoBulkAll {H : Type} : List (DataW H) → Nat
  | [] => 0
  | d :: r => uptoBulk d + uptoBulkAll r
def uptoBulkEntries {H : Type} : List (Lit × DataW H) → Nat
  | [] => 0
  | x :: r => uptoBulkEntry x + uptoBulkEntries r
def uptoBulkEntry {H : Type} : Lit × DataW H → Nat
  | (.string bytes, d) => bytes.length + uptoBulk d + 1
  | (_, d) => uptoBulk d + 1
 end
def uptoSmall : (H : Type) → List (DataW H) → Bool := fun _ ds => decide (uptoBulkAll ds ≤ 1048576)
def OpenSpec.upto (s : _root_.Go.ChangeSpec) : _root_.Go.OpenSpec := { _root_.Go.OpenSpec.ofChange s with cond := some uptoSmall }

/-- 'depotlaw06.TreeBuilds', WHERE WHAT IT READS IS OF BULK AT MOST 1048576: true; the input reads as it did. -/
def treeBuildsUptoRow : OpenClaim := { program := "ytnemeeidomceiaadoor", sum := "33546d9a04e9bdc181cf3a7538c675b5d61dab99141eb7cd26028bab7c98994d", func := "depot/depotlaw06.TreeBuilds", spec := "treeBuilds", inPlace := ["internal/bytealg.IndexByteString", "internal/bytealg.IndexString"], unfollowed := true, recurses := true, named := ["unicode/utf8.first", "unicode/utf8.acceptRanges", "internal/bytealg.MaxLen"], apart := false, laid := [("unicode/utf8.acceptRanges", laid_unicode_utf8_acceptRanges), ("unicode/utf8.first", laid_unicode_utf8_first)], narrowed := true }
def TreeBuildsUptoSaid : Prop := treeBuildsUptoRow.holds Tryd.pinned (OpenSpec.upto treeBuildsSpec)

/-- 'depotlaw06.TreeBack', WHERE WHAT IT READS IS OF BULK AT MOST 1048576: true; the input reads as it did. -/
def treeBackUptoRow : OpenClaim := { program := "ytnemeeidomceiaadoor", sum := "33546d9a04e9bdc181cf3a7538c675b5d61dab99141eb7cd26028bab7c98994d", func := "depot/depotlaw06.TreeBack", spec := "treeBack", inPlace := ["internal/bytealg.IndexByteString", "internal/bytealg.IndexString"], unfollowed := true, recurses := true, named := ["unicode/utf8.first", "unicode/utf8.acceptRanges", "internal/bytealg.MaxLen"], loops := true, apart := false, laid := [("unicode/utf8.acceptRanges", laid_unicode_utf8_acceptRanges), ("unicode/utf8.first", laid_unicode_utf8_first)], narrowed := true }
def TreeBackUptoSaid : Prop := treeBackUptoRow.holds Tryd.pinned (OpenSpec.upto treeBackSpec)

/-- 'depotlaw06.TreeFirst', WHERE WHAT IT READS IS OF BULK AT MOST 1048576: true; the input reads as it did. -/
def treeFirstUptoRow : OpenClaim := { program := "ytnemeeidomceiaadoor", sum := "33546d9a04e9bdc181cf3a7538c675b5d61dab99141eb7cd26028bab7c98994d", func := "depot/depotlaw06.TreeFirst", spec := "treeFirst", inPlace := ["internal/bytealg.IndexByteString", "internal/bytealg.IndexString"], unfollowed := true, recurses := true, named := ["unicode/utf8.first", "unicode/utf8.acceptRanges", "internal/bytealg.MaxLen"], apart := false, laid := [("unicode/utf8.acceptRanges", laid_unicode_utf8_acceptRanges), ("unicode/utf8.first", laid_unicode_utf8_first)], narrowed := true }
def TreeFirstUptoSaid : Prop := treeFirstUptoRow.holds Tryd.pinned (OpenSpec.upto treeFirstSpec)

/-- 'depotlaw06.TreeGets', WHERE WHAT IT READS IS OF BULK AT MOST 1048576: true; the input reads as it did. -/
def treeGetsUptoRow : OpenClaim := { program := "ytnemeeidomceiaadoor", sum := "33546d9a04e9bdc181cf3a7538c675b5d61dab99141eb7cd26028bab7c98994d", func := "depot/depotlaw06.TreeGets", spec := "treeGets", inPlace := ["internal/bytealg.IndexByteString", "internal/bytealg.IndexString", "internal/bytealg.abigen_runtime_cmpstring"], unfollowed := true, recurses := true, named := ["unicode/utf8.first", "unicode/utf8.acceptRanges", "internal/bytealg.MaxLen"], loops := true, apart := false, laid := [("unicode/utf8.acceptRanges", laid_unicode_utf8_acceptRanges), ("unicode/utf8.first", laid_unicode_utf8_first)], narrowed := true }
def TreeGetsUptoSaid : Prop := treeGetsUptoRow.holds Tryd.pinned (OpenSpec.upto treeGetsSpec)

/-- 'depotlaw06.TreePuts', WHERE WHAT IT READS IS OF BULK AT MOST 1048576: true; the input reads as it did. -/
def treePutsUptoRow : OpenClaim := { program := "ytnemeeidomceiaadoor", sum := "33546d9a04e9bdc181cf3a7538c675b5d61dab99141eb7cd26028bab7c98994d", func := "depot/depotlaw06.TreePuts", spec := "treePuts", inPlace := ["internal/bytealg.IndexByteString", "internal/bytealg.IndexString", "slices.overlaps[depot/api.Entry]", "internal/bytealg.abigen_runtime_cmpstring"], unfollowed := true, recurses := true, named := ["unicode/utf8.first", "unicode/utf8.acceptRanges", "internal/bytealg.MaxLen"], loops := true, apart := false, laid := [("unicode/utf8.acceptRanges", laid_unicode_utf8_acceptRanges), ("unicode/utf8.first", laid_unicode_utf8_first)], narrowed := true }
def TreePutsUptoSaid : Prop := treePutsUptoRow.holds Tryd.pinned (OpenSpec.upto treePutsSpec)

/-- 'depotlaw06.TreePutGet', WHERE WHAT IT READS IS OF BULK AT MOST 1048576: true; the input reads as it did. -/
def treePutGetUptoRow : OpenClaim := { program := "ytnemeeidomceiaadoor", sum := "33546d9a04e9bdc181cf3a7538c675b5d61dab99141eb7cd26028bab7c98994d", func := "depot/depotlaw06.TreePutGet", spec := "treePutGet", inPlace := ["internal/bytealg.IndexByteString", "internal/bytealg.IndexString", "slices.overlaps[depot/api.Entry]", "internal/bytealg.abigen_runtime_cmpstring"], unfollowed := true, recurses := true, named := ["unicode/utf8.first", "unicode/utf8.acceptRanges", "internal/bytealg.MaxLen"], loops := true, apart := false, laid := [("unicode/utf8.acceptRanges", laid_unicode_utf8_acceptRanges), ("unicode/utf8.first", laid_unicode_utf8_first)], narrowed := true }
def TreePutGetUptoSaid : Prop := treePutGetUptoRow.holds Tryd.pinned (OpenSpec.upto treePutGetSpec)

/-- 'depotlaw06.TreeKeeps', WHERE WHAT IT READS IS OF BULK AT MOST 1048576: true; the input reads as it did. -/
def treeKeepsUptoRow : OpenClaim := { program := "ytnemeeidomceiaadoor", sum := "33546d9a04e9bdc181cf3a7538c675b5d61dab99141eb7cd26028bab7c98994d", func := "depot/depotlaw06.TreeKeeps", spec := "treeKeeps", inPlace := ["internal/bytealg.IndexByteString", "internal/bytealg.IndexString", "slices.overlaps[depot/api.Entry]", "internal/bytealg.abigen_runtime_cmpstring"], unfollowed := true, recurses := true, named := ["unicode/utf8.first", "unicode/utf8.acceptRanges", "internal/bytealg.MaxLen"], loops := true, apart := false, laid := [("unicode/utf8.acceptRanges", laid_unicode_utf8_acceptRanges), ("unicode/utf8.first", laid_unicode_utf8_first)], narrowed := true }
def TreeKeepsUptoSaid : Prop := treeKeepsUptoRow.holds Tryd.pinned (OpenSpec.upto treeKeepsSpec)

end Rows
end Go.Proofs.YtnemeeidomceiaaDoor
