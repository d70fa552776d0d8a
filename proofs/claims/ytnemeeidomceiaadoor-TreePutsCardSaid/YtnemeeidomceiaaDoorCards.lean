/-
  DERIVED. GIVEN WITH THE SEED: THE CARDS: each row of YtnemeeidomceiaaDoorRows.lean that lists a variable, with what it lists TIED to the program's text (the seventh form; the later family's looks); each row that meets fmt, with fmt's text TOLD by the authors' own Lean function (tested against real Go, not proved from fmt's source: count such statements apart). THE CARD IS WHAT COUNTS. Prove the row's statement (the work); the ties are given (YtnemeeidomceiaaDoorTie.lean); close each card by the builder's one call (the guide's Derived/Test/ToyasCard.lean, 'card_holds'). Laid BY PROGRAM, IN A SANDBOX (cutbox-door.mjs). By AI agents, Wed Nov 11 2026. No macro, syntax, notation, axiom, sorry.
-/
import Derived.Test.YtnemeeidomceiaaDoorRows
import GoSem.ClaimSeven
namespace Go.Proofs.YtnemeeidomceiaaDoor
namespace Rows

/-- THE TIED CARD OF 'depotlaw06.TreeBuilds'. -/
def treeBuildsCard : Claim7 := { stood := { row := treeBuildsRow, standIns := [], harness := (true, "e1f906f147bec27e370403d0c029a890169c8546b5364c34bf499af94b5a5a9a"), looks := true }, kinds := [], alts := [], laidByText := true, laidKinds := [.data, .pinned], laidTests := true, laidLooks := .later }
def TreeBuildsCardSaid : Prop := Claim7.holds Tryd.pinned (.plain (OpenSpec.ofChange treeBuildsSpec)) treeBuildsCard

/-- THE TIED CARD OF 'depotlaw06.TreeBack'. -/
def treeBackCard : Claim7 := { stood := { row := treeBackRow, standIns := [], harness := (true, "e1f906f147bec27e370403d0c029a890169c8546b5364c34bf499af94b5a5a9a"), looks := true }, kinds := [], alts := [], laidByText := true, laidKinds := [.data, .pinned], laidTests := true, laidLooks := .later }
def TreeBackCardSaid : Prop := Claim7.holds Tryd.pinned (.plain (OpenSpec.ofChange treeBackSpec)) treeBackCard

/-- THE TIED CARD OF 'depotlaw06.TreeFirst'. -/
def treeFirstCard : Claim7 := { stood := { row := treeFirstRow, standIns := [], harness := (true, "e1f906f147bec27e370403d0c029a890169c8546b5364c34bf499af94b5a5a9a"), looks := true }, kinds := [], alts := [], laidByText := true, laidKinds := [.data, .pinned], laidTests := true, laidLooks := .later }
def TreeFirstCardSaid : Prop := Claim7.holds Tryd.pinned (.plain (OpenSpec.ofChange treeFirstSpec)) treeFirstCard

/-- THE TIED CARD OF 'depotlaw06.TreeGets'. -/
def treeGetsCard : Claim7 := { stood := { row := treeGetsRow, standIns := [], harness := (true, "e1f906f147bec27e370403d0c029a890169c8546b5364c34bf499af94b5a5a9a"), looks := true }, kinds := [], alts := [], laidByText := true, laidKinds := [.data, .pinned], laidTests := true, laidLooks := .later }
def TreeGetsCardSaid : Prop := Claim7.holds Tryd.pinned (.plain (OpenSpec.ofChange treeGetsSpec)) treeGetsCard

/-- THE TIED CARD OF 'depotlaw06.TreePuts'. -/
def treePutsCard : Claim7 := { stood := { row := treePutsRow, standIns := [], harness := (true, "e1f906f147bec27e370403d0c029a890169c8546b5364c34bf499af94b5a5a9a"), looks := true }, kinds := [], alts := [], laidByText := true, laidKinds := [.data, .pinned], laidTests := true, laidLooks := .later }
def TreePutsCardSaid : Prop := Claim7.holds Tryd.pinned (.plain (OpenSpec.ofChange treePutsSpec)) treePutsCard

/-- THE TIED CARD OF 'depotlaw06.TreePutGet'. -/
def treePutGetCard : Claim7 := { stood := { row := treePutGetRow, standIns := [], harness := (true, "e1f906f147bec27e370403d0c029a890169c8546b5364c34bf499af94b5a5a9a"), looks := true }, kinds := [], alts := [], laidByText := true, laidKinds := [.data, .pinned], laidTests := true, laidLooks := .later }
def TreePutGetCardSaid : Prop := Claim7.holds Tryd.pinned (.plain (OpenSpec.ofChange treePutGetSpec)) treePutGetCard

/-- THE TIED CARD OF 'depotlaw06.TreeKeeps'. -/
def treeKeepsCard : Claim7 := { stood := { row := treeKeepsRow, standIns := [], harness := (true, "e1f906f147bec27e370403d0c029a890169c8546b5364c34bf499af94b5a5a9a"), looks := true }, kinds := [], alts := [], laidByText := true, laidKinds := [.data, .pinned], laidTests := true, laidLooks := .later }
def TreeKeepsCardSaid : Prop := Claim7.holds Tryd.pinned (.plain (OpenSpec.ofChange treeKeepsSpec)) treeKeepsCard

/-- THE SECOND FORM's CARD OF 'depotlaw06.TreeBuilds'. -/
def treeBuildsUptoCard : Claim7 := { stood := { row := treeBuildsUptoRow, standIns := [], harness := (true, "e1f906f147bec27e370403d0c029a890169c8546b5364c34bf499af94b5a5a9a"), looks := true }, kinds := [], alts := [], laidByText := true, laidKinds := [.data, .pinned], laidTests := true, laidLooks := .later }
def TreeBuildsUptoCardSaid : Prop := Claim7.holds Tryd.pinned (.plain (OpenSpec.upto treeBuildsSpec)) treeBuildsUptoCard

/-- THE SECOND FORM's CARD OF 'depotlaw06.TreeBack'. -/
def treeBackUptoCard : Claim7 := { stood := { row := treeBackUptoRow, standIns := [], harness := (true, "e1f906f147bec27e370403d0c029a890169c8546b5364c34bf499af94b5a5a9a"), looks := true }, kinds := [], alts := [], laidByText := true, laidKinds := [.data, .pinned], laidTests := true, laidLooks := .later }
def TreeBackUptoCardSaid : Prop := Claim7.holds Tryd.pinned (.plain (OpenSpec.upto treeBackSpec)) treeBackUptoCard

/-- THE SECOND FORM's CARD OF 'depotlaw06.TreeFirst'. -/
def treeFirstUptoCard : Claim7 := { stood := { row := treeFirstUptoRow, standIns := [], harness := (true, "e1f906f147bec27e370403d0c029a890169c8546b5364c34bf499af94b5a5a9a"), looks := true }, kinds := [], alts := [], laidByText := true, laidKinds := [.data, .pinned], laidTests := true, laidLooks := .later }
def TreeFirstUptoCardSaid : Prop := Claim7.holds Tryd.pinned (.plain (OpenSpec.upto treeFirstSpec)) treeFirstUptoCard

/-- THE SECOND FORM's CARD OF 'depotlaw06.TreeGets'. -/
def treeGetsUptoCard : Claim7 := { stood := { row := treeGetsUptoRow, standIns := [], harness := (true, "e1f906f147bec27e370403d0c029a890169c8546b5364c34bf499af94b5a5a9a"), looks := true }, kinds := [], alts := [], laidByText := true, laidKinds := [.data, .pinned], laidTests := true, laidLooks := .later }
def TreeGetsUptoCardSaid : Prop := Claim7.holds Tryd.pinned (.plain (OpenSpec.upto treeGetsSpec)) treeGetsUptoCard

/-- THE SECOND FORM's CARD OF 'depotlaw06.TreePuts'. -/
def treePutsUptoCard : Claim7 := { stood := { row := treePutsUptoRow, standIns := [], harness := (true, "e1f906f147bec27e370403d0c029a890169c8546b5364c34bf499af94b5a5a9a"), looks := true }, kinds := [], alts := [], laidByText := true, laidKinds := [.data, .pinned], laidTests := true, laidLooks := .later }
def TreePutsUptoCardSaid : Prop := Claim7.holds Tryd.pinned (.plain (OpenSpec.upto treePutsSpec)) treePutsUptoCard

/-- THE SECOND FORM's CARD OF 'depotlaw06.TreePutGet'. -/
def treePutGetUptoCard : Claim7 := { stood := { row := treePutGetUptoRow, standIns := [], harness := (true, "e1f906f147bec27e370403d0c029a890169c8546b5364c34bf499af94b5a5a9a"), looks := true }, kinds := [], alts := [], laidByText := true, laidKinds := [.data, .pinned], laidTests := true, laidLooks := .later }
def TreePutGetUptoCardSaid : Prop := Claim7.holds Tryd.pinned (.plain (OpenSpec.upto treePutGetSpec)) treePutGetUptoCard

/-- THE SECOND FORM's CARD OF 'depotlaw06.TreeKeeps'. -/
def treeKeepsUptoCard : Claim7 := { stood := { row := treeKeepsUptoRow, standIns := [], harness := (true, "e1f906f147bec27e370403d0c029a890169c8546b5364c34bf499af94b5a5a9a"), looks := true }, kinds := [], alts := [], laidByText := true, laidKinds := [.data, .pinned], laidTests := true, laidLooks := .later }
def TreeKeepsUptoCardSaid : Prop := Claim7.holds Tryd.pinned (.plain (OpenSpec.upto treeKeepsSpec)) treeKeepsUptoCard
end Rows
end Go.Proofs.YtnemeeidomceiaaDoor
