/-
  No cell of these rows narrows 'for every input' (looked for: loops, veiled, ifaces, maps, wideKeys, modest, calm, conditions, laid).
  DERIVED. THE GIVEN ROWS OF THIS SEAT. 7 by the template 'for every input the law returns true; each argument reads behind the call as it read before'; 0 by the template 'total and deterministic' (their statements: YtjbjdccnbjddjaaTotals.lean).
  GIVEN WITH THE SEED: the statements are not yours to turn. If you find one false, say at which input.
  Laid BY PROGRAM, IN A SANDBOX (cutbox-rows.mjs): the forced cells as the released guide's own fill.sh prints them over the translation 6968d59292df634e… (all of the seat's roots in one cut). By AI agents, Wed Nov 11 2026. No macro, syntax, notation, axiom, sorry.
-/
import Derived.Test.YtjbjdccnbjddjaaChecked
import GoSem.Claim
import GoSem.ClaimJoined
import GoSem.ClaimMapViews
import Derived.JoinedTies
import Derived.KernelRfl
namespace Go.Proofs.Ytjbjdccnbjddjaa
/- THE CELL 'sum', in the pinned program and in every row, IS THE sha256 OF THE DUMP (.gsa) THAT YtjbjdccnbjddjaaProg.lean LOADS. Nothing in Lean hashes anything: it is a label: what it is worth is what the hold of that sum in a sandbox is worth. -/
noncomputable def Try.pinned : Pinned := { name := "ytjbjdccnbjddjaa", sum := "6968d59292df634e64bc412ca180d347ba43fdeebf31af0970e733a0a28d5fb8", checked := Try.checked }
namespace Rows
def none {H : Type} : Left H := { results := [], args := [] }

/-- 'depotlaw02.RadixFolds': WHATEVER THE INPUT: true; the input reads as it did. -/
def radixFoldsSpec : ChangeSpec := { name := "radixFolds", fn := fun _ => fun
  | [d1, d2] => { results := [.lit (.bool true)], args := [d1, d2] }
  | _ => none }
def radixFoldsRow : OpenClaim := { program := "ytjbjdccnbjddjaa", sum := "6968d59292df634e64bc412ca180d347ba43fdeebf31af0970e733a0a28d5fb8", func := "depot/depotlaw02.RadixFolds", spec := "radixFolds", apart := false }
def RadixFoldsSaid : Prop := radixFoldsRow.holds Try.pinned (OpenSpec.ofChange radixFoldsSpec)

/-- ITS FALSE NEIGHBOUR: 'it returns false'. Refute it at one input. -/
def radixFoldsWrong : ChangeSpec := { name := "radixFolds", fn := fun _ => fun
  | [d1, d2] => { results := [.lit (.bool false)], args := [d1, d2] }
  | _ => none }
def RadixFoldsWrongFalsely : Prop := radixFoldsRow.holds Try.pinned (OpenSpec.ofChange radixFoldsWrong)

/-- 'depotlaw02.RadixMixes': WHATEVER THE INPUT: true; the input reads as it did. -/
def radixMixesSpec : ChangeSpec := { name := "radixMixes", fn := fun _ => fun
  | [d1, d2, d3] => { results := [.lit (.bool true)], args := [d1, d2, d3] }
  | _ => none }
def radixMixesRow : OpenClaim := { program := "ytjbjdccnbjddjaa", sum := "6968d59292df634e64bc412ca180d347ba43fdeebf31af0970e733a0a28d5fb8", func := "depot/depotlaw02.RadixMixes", spec := "radixMixes", apart := false }
def RadixMixesSaid : Prop := radixMixesRow.holds Try.pinned (OpenSpec.ofChange radixMixesSpec)

/-- ITS FALSE NEIGHBOUR: 'it returns false'. Refute it at one input. -/
def radixMixesWrong : ChangeSpec := { name := "radixMixes", fn := fun _ => fun
  | [d1, d2, d3] => { results := [.lit (.bool false)], args := [d1, d2, d3] }
  | _ => none }
def RadixMixesWrongFalsely : Prop := radixMixesRow.holds Try.pinned (OpenSpec.ofChange radixMixesWrong)

/-- 'depotlaw02.RadixHexes': WHATEVER THE INPUT: true; the input reads as it did. -/
def radixHexesSpec : ChangeSpec := { name := "radixHexes", fn := fun _ => fun
  | [d1, d2] => { results := [.lit (.bool true)], args := [d1, d2] }
  | _ => none }
def radixHexesRow : OpenClaim := { program := "ytjbjdccnbjddjaa", sum := "6968d59292df634e64bc412ca180d347ba43fdeebf31af0970e733a0a28d5fb8", func := "depot/depotlaw02.RadixHexes", spec := "radixHexes", inPlace := ["internal/bytealg.IndexByteString"], apart := false }
def RadixHexesSaid : Prop := radixHexesRow.holds Try.pinned (OpenSpec.ofChange radixHexesSpec)

/-- ITS FALSE NEIGHBOUR: 'it returns false'. Refute it at one input. -/
def radixHexesWrong : ChangeSpec := { name := "radixHexes", fn := fun _ => fun
  | [d1, d2] => { results := [.lit (.bool false)], args := [d1, d2] }
  | _ => none }
def RadixHexesWrongFalsely : Prop := radixHexesRow.holds Try.pinned (OpenSpec.ofChange radixHexesWrong)

/-- 'depotlaw02.RadixOrder': WHATEVER THE INPUT: true; the input reads as it did. -/
def radixOrderSpec : ChangeSpec := { name := "radixOrder", fn := fun _ => fun
  | [d1, d2] => { results := [.lit (.bool true)], args := [d1, d2] }
  | _ => none }
def radixOrderRow : OpenClaim := { program := "ytjbjdccnbjddjaa", sum := "6968d59292df634e64bc412ca180d347ba43fdeebf31af0970e733a0a28d5fb8", func := "depot/depotlaw02.RadixOrder", spec := "radixOrder", apart := false }
def RadixOrderSaid : Prop := radixOrderRow.holds Try.pinned (OpenSpec.ofChange radixOrderSpec)

/-- ITS FALSE NEIGHBOUR: 'it returns false'. Refute it at one input. -/
def radixOrderWrong : ChangeSpec := { name := "radixOrder", fn := fun _ => fun
  | [d1, d2] => { results := [.lit (.bool false)], args := [d1, d2] }
  | _ => none }
def RadixOrderWrongFalsely : Prop := radixOrderRow.holds Try.pinned (OpenSpec.ofChange radixOrderWrong)

/-- 'depotlaw02.RadixLetters': WHATEVER THE INPUT: true; the input reads as it did. -/
def radixLettersSpec : ChangeSpec := { name := "radixLetters", fn := fun _ => fun
  | [d1, d2, d3] => { results := [.lit (.bool true)], args := [d1, d2, d3] }
  | _ => none }
def radixLettersRow : OpenClaim := { program := "ytjbjdccnbjddjaa", sum := "6968d59292df634e64bc412ca180d347ba43fdeebf31af0970e733a0a28d5fb8", func := "depot/depotlaw02.RadixLetters", spec := "radixLetters", inPlace := ["internal/bytealg.IndexByteString"], apart := false }
def RadixLettersSaid : Prop := radixLettersRow.holds Try.pinned (OpenSpec.ofChange radixLettersSpec)

/-- ITS FALSE NEIGHBOUR: 'it returns false'. Refute it at one input. -/
def radixLettersWrong : ChangeSpec := { name := "radixLetters", fn := fun _ => fun
  | [d1, d2, d3] => { results := [.lit (.bool false)], args := [d1, d2, d3] }
  | _ => none }
def RadixLettersWrongFalsely : Prop := radixLettersRow.holds Try.pinned (OpenSpec.ofChange radixLettersWrong)

/-- 'depotlaw02.RadixBack': WHATEVER THE INPUT: true; the input reads as it did. -/
def radixBackSpec : ChangeSpec := { name := "radixBack", fn := fun _ => fun
  | [d] => { results := [.lit (.bool true)], args := [d] }
  | _ => none }
def radixBackRow : OpenClaim := { program := "ytjbjdccnbjddjaa", sum := "6968d59292df634e64bc412ca180d347ba43fdeebf31af0970e733a0a28d5fb8", func := "depot/depotlaw02.RadixBack", spec := "radixBack", inPlace := ["internal/bytealg.IndexByteString"], apart := false }
def RadixBackSaid : Prop := radixBackRow.holds Try.pinned (OpenSpec.ofChange radixBackSpec)

/-- ITS FALSE NEIGHBOUR: 'it returns false'. Refute it at one input. -/
def radixBackWrong : ChangeSpec := { name := "radixBack", fn := fun _ => fun
  | [d] => { results := [.lit (.bool false)], args := [d] }
  | _ => none }
def RadixBackWrongFalsely : Prop := radixBackRow.holds Try.pinned (OpenSpec.ofChange radixBackWrong)

/-- 'depotlaw02.RadixOne': WHATEVER THE INPUT: true; the input reads as it did. -/
def radixOneSpec : ChangeSpec := { name := "radixOne", fn := fun _ => fun
  | [d] => { results := [.lit (.bool true)], args := [d] }
  | _ => none }
def radixOneRow : OpenClaim := { program := "ytjbjdccnbjddjaa", sum := "6968d59292df634e64bc412ca180d347ba43fdeebf31af0970e733a0a28d5fb8", func := "depot/depotlaw02.RadixOne", spec := "radixOne", inPlace := ["internal/bytealg.IndexByteString"], apart := false }
def RadixOneSaid : Prop := radixOneRow.holds Try.pinned (OpenSpec.ofChange radixOneSpec)

/-- ITS FALSE NEIGHBOUR: 'it returns false'. Refute it at one input. -/
def radixOneWrong : ChangeSpec := { name := "radixOne", fn := fun _ => fun
  | [d] => { results := [.lit (.bool false)], args := [d] }
  | _ => none }
def RadixOneWrongFalsely : Prop := radixOneRow.holds Try.pinned (OpenSpec.ofChange radixOneWrong)

/- THE SECOND FORM. 'bulk': how many values and letters a reading holds, each counted each time it is reached (what is shared counts as often as it is met; a slice's spare places count too). A statement '..UptoSaid' is the law's where the arguments, and the package variables that the reading takes, are together of bulk at most 1048576: NARROWER than '..Said'. Prove '..Said' where nothing that the law and all that it calls make is longer than what came in: it says more and counts as full. Else prove '..UptoSaid'. A law counts once. -/
mutual
def uptoBulk {H : Type} : DataW H → Nat
  | .lit (.string bytes) => bytes.length + 1
  | .lit _ => 1
  | .nil => 1
  | .ptr d => uptoBulk d + 1
  | .slice elems spare => uptoBulkAll elems + uptoBulkAll spare + 1
  | .agg parts => uptoBulkAll parts + 1
  | .iface _ d => uptoBulk d + 1
  | .map entries => uptoBulkEntries entries + 1
  | .held _ => 1
def uptoBulkAll {H : Type} : List (DataW H) → Nat
  | [] => 0
  | d :: r => uptoBulk d + uptoBulkAll r
def uptoBulkEntries {H : Type} : List (Lit × DataW H) → Nat
  | [] => 0
  | x :: r => uptoBulkEntry x + uptoBulkEntries r
def uptoBulkEntry {H : Type} : Lit × DataW H → Nat
  | (.string bytes, d) => bytes.length + uptoBulk d + 1
  | (_, d) => uptoBulk d + 1
 end
def uptoSmall : (H : Type) → List (DataW H) → Bool := fun _ ds => decide (uptoBulkAll ds ≤ 1048576)
def OpenSpec.upto (s : _root_.Go.ChangeSpec) : _root_.Go.OpenSpec := { _root_.Go.OpenSpec.ofChange s with cond := some uptoSmall }

/-- 'depotlaw02.RadixFolds', WHERE WHAT IT READS IS OF BULK AT MOST 1048576: true; the input reads as it did. -/
def radixFoldsUptoRow : OpenClaim := { program := "ytjbjdccnbjddjaa", sum := "6968d59292df634e64bc412ca180d347ba43fdeebf31af0970e733a0a28d5fb8", func := "depot/depotlaw02.RadixFolds", spec := "radixFolds", apart := false, narrowed := true }
def RadixFoldsUptoSaid : Prop := radixFoldsUptoRow.holds Try.pinned (OpenSpec.upto radixFoldsSpec)

/-- 'depotlaw02.RadixMixes', WHERE WHAT IT READS IS OF BULK AT MOST 1048576: true; the input reads as it did. -/
def radixMixesUptoRow : OpenClaim := { program := "ytjbjdccnbjddjaa", sum := "6968d59292df634e64bc412ca180d347ba43fdeebf31af0970e733a0a28d5fb8", func := "depot/depotlaw02.RadixMixes", spec := "radixMixes", apart := false, narrowed := true }
def RadixMixesUptoSaid : Prop := radixMixesUptoRow.holds Try.pinned (OpenSpec.upto radixMixesSpec)

/-- 'depotlaw02.RadixHexes', WHERE WHAT IT READS IS OF BULK AT MOST 1048576: true; the input reads as it did. -/
def radixHexesUptoRow : OpenClaim := { program := "ytjbjdccnbjddjaa", sum := "6968d59292df634e64bc412ca180d347ba43fdeebf31af0970e733a0a28d5fb8", func := "depot/depotlaw02.RadixHexes", spec := "radixHexes", inPlace := ["internal/bytealg.IndexByteString"], apart := false, narrowed := true }
def RadixHexesUptoSaid : Prop := radixHexesUptoRow.holds Try.pinned (OpenSpec.upto radixHexesSpec)

/-- 'depotlaw02.RadixOrder', WHERE WHAT IT READS IS OF BULK AT MOST 1048576: true; the input reads as it did. -/
def radixOrderUptoRow : OpenClaim := { program := "ytjbjdccnbjddjaa", sum := "6968d59292df634e64bc412ca180d347ba43fdeebf31af0970e733a0a28d5fb8", func := "depot/depotlaw02.RadixOrder", spec := "radixOrder", apart := false, narrowed := true }
def RadixOrderUptoSaid : Prop := radixOrderUptoRow.holds Try.pinned (OpenSpec.upto radixOrderSpec)

/-- 'depotlaw02.RadixLetters', WHERE WHAT IT READS IS OF BULK AT MOST 1048576: true; the input reads as it did. -/
def radixLettersUptoRow : OpenClaim := { program := "ytjbjdccnbjddjaa", sum := "6968d59292df634e64bc412ca180d347ba43fdeebf31af0970e733a0a28d5fb8", func := "depot/depotlaw02.RadixLetters", spec := "radixLetters", inPlace := ["internal/bytealg.IndexByteString"], apart := false, narrowed := true }
def RadixLettersUptoSaid : Prop := radixLettersUptoRow.holds Try.pinned (OpenSpec.upto radixLettersSpec)

/-- 'depotlaw02.RadixBack', WHERE WHAT IT READS IS OF BULK AT MOST 1048576: true; the input reads as it did. -/
def radixBackUptoRow : OpenClaim := { program := "ytjbjdccnbjddjaa", sum := "6968d59292df634e64bc412ca180d347ba43fdeebf31af0970e733a0a28d5fb8", func := "depot/depotlaw02.RadixBack", spec := "radixBack", inPlace := ["internal/bytealg.IndexByteString"], apart := false, narrowed := true }
def RadixBackUptoSaid : Prop := radixBackUptoRow.holds Try.pinned (OpenSpec.upto radixBackSpec)

/-- 'depotlaw02.RadixOne', WHERE WHAT IT READS IS OF BULK AT MOST 1048576: true; the input reads as it did. -/
def radixOneUptoRow : OpenClaim := { program := "ytjbjdccnbjddjaa", sum := "6968d59292df634e64bc412ca180d347ba43fdeebf31af0970e733a0a28d5fb8", func := "depot/depotlaw02.RadixOne", spec := "radixOne", inPlace := ["internal/bytealg.IndexByteString"], apart := false, narrowed := true }
def RadixOneUptoSaid : Prop := radixOneUptoRow.holds Try.pinned (OpenSpec.upto radixOneSpec)

end Rows
end Go.Proofs.Ytjbjdccnbjddjaa
