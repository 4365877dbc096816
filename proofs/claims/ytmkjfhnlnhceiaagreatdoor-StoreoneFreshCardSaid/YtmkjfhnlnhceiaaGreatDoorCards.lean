/-
  DERIVED. GIVEN WITH THE SEED: THE CARDS: each row of YtmkjfhnlnhceiaaGreatDoorRows.lean that lists a variable, with what it lists TIED to the program's text (the seventh form; the later family's looks); each row that meets fmt, with fmt's text TOLD by the authors' own Lean function (tested against real Go, not proved from fmt's source: count such statements apart). THE CARD IS WHAT COUNTS. Prove the row's statement (the work); the ties are given (YtmkjfhnlnhceiaaGreatDoorTie.lean); close each card by the builder's one call (the guide's Derived/Test/ToyasCard.lean, 'card_holds'). Laid BY PROGRAM, IN A SANDBOX (cutbox-door.mjs). By AI agents, Wed Nov 11 2026. No macro, syntax, notation, axiom, sorry.
-/
import Derived.Test.YtmkjfhnlnhceiaaGreatDoorRows
import GoSem.ClaimSeven
namespace Go.Proofs.YtmkjfhnlnhceiaaGreatDoor
namespace Rows

/-- THE TIED CARD OF 'satchellaw14.StoreoneNames'. -/
def storeoneNamesCard : Claim7 := { stood := { row := storeoneNamesRow, standIns := [], harness := (true, "1cd6a12e3da0823151ec41b30176c8f565628799a78765dfe8e94f2355e42a3f"), looks := true }, kinds := [], alts := [], laidByText := true, laidKinds := [.data], laidTests := true, laidLooks := .later }
def StoreoneNamesCardSaid : Prop := Claim7.holds Tryz.pinned (.plain (OpenSpec.ofChange storeoneNamesSpec)) storeoneNamesCard

/-- THE TIED CARD OF 'satchellaw14.StoreoneThere'. -/
def storeoneThereCard : Claim7 := { stood := { row := storeoneThereRow, standIns := [], harness := (true, "1cd6a12e3da0823151ec41b30176c8f565628799a78765dfe8e94f2355e42a3f"), looks := true }, kinds := [], alts := [], laidByText := true, laidKinds := [.data], laidTests := true, laidLooks := .later }
def StoreoneThereCardSaid : Prop := Claim7.holds Tryz.pinned (.plain (OpenSpec.ofChange storeoneThereSpec)) storeoneThereCard

/-- THE TIED CARD OF 'satchellaw14.StoreoneSizes'. -/
def storeoneSizesCard : Claim7 := { stood := { row := storeoneSizesRow, standIns := [], harness := (true, "1cd6a12e3da0823151ec41b30176c8f565628799a78765dfe8e94f2355e42a3f"), looks := true }, kinds := [], alts := [], laidByText := true, laidKinds := [.data], laidTests := true, laidLooks := .later }
def StoreoneSizesCardSaid : Prop := Claim7.holds Tryz.pinned (.plain (OpenSpec.ofChange storeoneSizesSpec)) storeoneSizesCard

/-- THE TIED CARD OF 'satchellaw14.StoreoneFresh'. -/
def storeoneFreshCard : Claim7 := { stood := { row := storeoneFreshRow, standIns := [], harness := (true, "1cd6a12e3da0823151ec41b30176c8f565628799a78765dfe8e94f2355e42a3f"), looks := true }, kinds := [], alts := [], laidByText := true, laidKinds := [.data], laidTests := true, laidLooks := .later }
def StoreoneFreshCardSaid : Prop := Claim7.holds Tryz.pinned (.plain (OpenSpec.ofChange storeoneFreshSpec)) storeoneFreshCard

/-- THE SECOND FORM's CARD OF 'satchellaw14.StoreoneNames'. -/
def storeoneNamesUptoCard : Claim7 := { stood := { row := storeoneNamesUptoRow, standIns := [], harness := (true, "1cd6a12e3da0823151ec41b30176c8f565628799a78765dfe8e94f2355e42a3f"), looks := true }, kinds := [], alts := [], laidByText := true, laidKinds := [.data], laidTests := true, laidLooks := .later }
def StoreoneNamesUptoCardSaid : Prop := Claim7.holds Tryz.pinned (.plain (OpenSpec.upto storeoneNamesSpec)) storeoneNamesUptoCard

/-- THE SECOND FORM's CARD OF 'satchellaw14.StoreoneThere'. -/
def storeoneThereUptoCard : Claim7 := { stood := { row := storeoneThereUptoRow, standIns := [], harness := (true, "1cd6a12e3da0823151ec41b30176c8f565628799a78765dfe8e94f2355e42a3f"), looks := true }, kinds := [], alts := [], laidByText := true, laidKinds := [.data], laidTests := true, laidLooks := .later }
def StoreoneThereUptoCardSaid : Prop := Claim7.holds Tryz.pinned (.plain (OpenSpec.upto storeoneThereSpec)) storeoneThereUptoCard

/-- THE SECOND FORM's CARD OF 'satchellaw14.StoreoneSizes'. -/
def storeoneSizesUptoCard : Claim7 := { stood := { row := storeoneSizesUptoRow, standIns := [], harness := (true, "1cd6a12e3da0823151ec41b30176c8f565628799a78765dfe8e94f2355e42a3f"), looks := true }, kinds := [], alts := [], laidByText := true, laidKinds := [.data], laidTests := true, laidLooks := .later }
def StoreoneSizesUptoCardSaid : Prop := Claim7.holds Tryz.pinned (.plain (OpenSpec.upto storeoneSizesSpec)) storeoneSizesUptoCard

/-- THE SECOND FORM's CARD OF 'satchellaw14.StoreoneFresh'. -/
def storeoneFreshUptoCard : Claim7 := { stood := { row := storeoneFreshUptoRow, standIns := [], harness := (true, "1cd6a12e3da0823151ec41b30176c8f565628799a78765dfe8e94f2355e42a3f"), looks := true }, kinds := [], alts := [], laidByText := true, laidKinds := [.data], laidTests := true, laidLooks := .later }
def StoreoneFreshUptoCardSaid : Prop := Claim7.holds Tryz.pinned (.plain (OpenSpec.upto storeoneFreshSpec)) storeoneFreshUptoCard
end Rows
end Go.Proofs.YtmkjfhnlnhceiaaGreatDoor
