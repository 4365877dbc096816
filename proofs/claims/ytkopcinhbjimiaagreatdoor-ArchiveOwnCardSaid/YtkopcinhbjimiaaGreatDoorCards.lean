/-
  DERIVED. GIVEN WITH THE SEED: THE CARDS: each row of YtkopcinhbjimiaaGreatDoorRows.lean that lists a variable, with what it lists TIED to the program's text (the seventh form; the later family's looks); each row that meets fmt, with fmt's text TOLD by the authors' own Lean function (tested against real Go, not proved from fmt's source: count such statements apart). THE CARD IS WHAT COUNTS. Prove the row's statement (the work); the ties are given (YtkopcinhbjimiaaGreatDoorTie.lean); close each card by the builder's one call (the guide's Derived/Test/ToyasCard.lean, 'card_holds'). Laid BY PROGRAM, IN A SANDBOX (cutbox-door.mjs). By AI agents, Wed Nov 11 2026. No macro, syntax, notation, axiom, sorry.
-/
import Derived.Test.YtkopcinhbjimiaaGreatDoorRows
import GoSem.ClaimSeven
namespace Go.Proofs.YtkopcinhbjimiaaGreatDoor
namespace Rows

/-- THE TIED CARD OF 'satchellaw20.ArchiveNames'. -/
def archiveNamesCard : Claim7 := { stood := { row := archiveNamesRow, standIns := [], harness := (true, "4982e14d7e6b816143ef947475410f28ce78841f78923bc3c4f68e82710c8bf7"), looks := false }, kinds := [], alts := [], laidByText := true, laidKinds := [.data], laidTests := true, laidLooks := .later }
def ArchiveNamesCardSaid : Prop := Claim7.holds Tryz.pinned (.plain (OpenSpec.ofChange archiveNamesSpec)) archiveNamesCard

/-- THE TIED CARD OF 'satchellaw20.ArchiveWrites'. -/
def archiveWritesCard : Claim7 := { stood := { row := archiveWritesRow, standIns := [], harness := (true, "4982e14d7e6b816143ef947475410f28ce78841f78923bc3c4f68e82710c8bf7"), looks := false }, kinds := [], alts := [], laidByText := true, laidKinds := [.data], laidTests := true, laidLooks := .later }
def ArchiveWritesCardSaid : Prop := Claim7.holds Tryz.pinned (.plain (OpenSpec.ofChange archiveWritesSpec)) archiveWritesCard

/-- THE TIED CARD OF 'satchellaw20.ArchiveStreams'. -/
def archiveStreamsCard : Claim7 := { stood := { row := archiveStreamsRow, standIns := [], harness := (true, "4982e14d7e6b816143ef947475410f28ce78841f78923bc3c4f68e82710c8bf7"), looks := false }, kinds := [], alts := [], laidByText := true, laidKinds := [.data], laidTests := true, laidLooks := .later }
def ArchiveStreamsCardSaid : Prop := Claim7.holds Tryz.pinned (.plain (OpenSpec.ofChange archiveStreamsSpec)) archiveStreamsCard

/-- THE TIED CARD OF 'satchellaw20.ArchiveReads'. -/
def archiveReadsCard : Claim7 := { stood := { row := archiveReadsRow, standIns := [], harness := (true, "4982e14d7e6b816143ef947475410f28ce78841f78923bc3c4f68e82710c8bf7"), looks := false }, kinds := [], alts := [], laidByText := true, laidKinds := [.data], laidTests := true, laidLooks := .later }
def ArchiveReadsCardSaid : Prop := Claim7.holds Tryz.pinned (.plain (OpenSpec.ofChange archiveReadsSpec)) archiveReadsCard

/-- THE TIED CARD OF 'satchellaw20.ArchiveFeeds'. -/
def archiveFeedsCard : Claim7 := { stood := { row := archiveFeedsRow, standIns := [], harness := (true, "4982e14d7e6b816143ef947475410f28ce78841f78923bc3c4f68e82710c8bf7"), looks := false }, kinds := [], alts := [], laidByText := true, laidKinds := [.data], laidTests := true, laidLooks := .later }
def ArchiveFeedsCardSaid : Prop := Claim7.holds Tryz.pinned (.plain (OpenSpec.ofChange archiveFeedsSpec)) archiveFeedsCard

/-- THE TIED CARD OF 'satchellaw20.ArchiveThere'. -/
def archiveThereCard : Claim7 := { stood := { row := archiveThereRow, standIns := [], harness := (true, "4982e14d7e6b816143ef947475410f28ce78841f78923bc3c4f68e82710c8bf7"), looks := false }, kinds := [], alts := [], laidByText := true, laidKinds := [.data], laidTests := true, laidLooks := .later }
def ArchiveThereCardSaid : Prop := Claim7.holds Tryz.pinned (.plain (OpenSpec.ofChange archiveThereSpec)) archiveThereCard

/-- THE TIED CARD OF 'satchellaw20.ArchiveOne'. -/
def archiveOneCard : Claim7 := { stood := { row := archiveOneRow, standIns := [], harness := (true, "4982e14d7e6b816143ef947475410f28ce78841f78923bc3c4f68e82710c8bf7"), looks := false }, kinds := [], alts := [], laidByText := true, laidKinds := [.data], laidTests := true, laidLooks := .later }
def ArchiveOneCardSaid : Prop := Claim7.holds Tryz.pinned (.plain (OpenSpec.ofChange archiveOneSpec)) archiveOneCard

/-- THE TIED CARD OF 'satchellaw20.ArchiveBurst'. -/
def archiveBurstCard : Claim7 := { stood := { row := archiveBurstRow, standIns := [], harness := (true, "4982e14d7e6b816143ef947475410f28ce78841f78923bc3c4f68e82710c8bf7"), looks := false }, kinds := [], alts := [], laidByText := true, laidKinds := [.data], laidTests := true, laidLooks := .later }
def ArchiveBurstCardSaid : Prop := Claim7.holds Tryz.pinned (.plain (OpenSpec.ofChange archiveBurstSpec)) archiveBurstCard

/-- THE TIED CARD OF 'satchellaw20.ArchiveOwn'. -/
def archiveOwnCard : Claim7 := { stood := { row := archiveOwnRow, standIns := [], harness := (true, "4982e14d7e6b816143ef947475410f28ce78841f78923bc3c4f68e82710c8bf7"), looks := false }, kinds := [], alts := [], laidByText := true, laidKinds := [.data], laidTests := true, laidLooks := .later }
def ArchiveOwnCardSaid : Prop := Claim7.holds Tryz.pinned (.plain (OpenSpec.ofChange archiveOwnSpec)) archiveOwnCard

/-- THE SECOND FORM's CARD OF 'satchellaw20.ArchiveNames'. -/
def archiveNamesUptoCard : Claim7 := { stood := { row := archiveNamesUptoRow, standIns := [], harness := (true, "4982e14d7e6b816143ef947475410f28ce78841f78923bc3c4f68e82710c8bf7"), looks := false }, kinds := [], alts := [], laidByText := true, laidKinds := [.data], laidTests := true, laidLooks := .later }
def ArchiveNamesUptoCardSaid : Prop := Claim7.holds Tryz.pinned (.plain (OpenSpec.upto archiveNamesSpec)) archiveNamesUptoCard

/-- THE SECOND FORM's CARD OF 'satchellaw20.ArchiveWrites'. -/
def archiveWritesUptoCard : Claim7 := { stood := { row := archiveWritesUptoRow, standIns := [], harness := (true, "4982e14d7e6b816143ef947475410f28ce78841f78923bc3c4f68e82710c8bf7"), looks := false }, kinds := [], alts := [], laidByText := true, laidKinds := [.data], laidTests := true, laidLooks := .later }
def ArchiveWritesUptoCardSaid : Prop := Claim7.holds Tryz.pinned (.plain (OpenSpec.upto archiveWritesSpec)) archiveWritesUptoCard

/-- THE SECOND FORM's CARD OF 'satchellaw20.ArchiveStreams'. -/
def archiveStreamsUptoCard : Claim7 := { stood := { row := archiveStreamsUptoRow, standIns := [], harness := (true, "4982e14d7e6b816143ef947475410f28ce78841f78923bc3c4f68e82710c8bf7"), looks := false }, kinds := [], alts := [], laidByText := true, laidKinds := [.data], laidTests := true, laidLooks := .later }
def ArchiveStreamsUptoCardSaid : Prop := Claim7.holds Tryz.pinned (.plain (OpenSpec.upto archiveStreamsSpec)) archiveStreamsUptoCard

/-- THE SECOND FORM's CARD OF 'satchellaw20.ArchiveReads'. -/
def archiveReadsUptoCard : Claim7 := { stood := { row := archiveReadsUptoRow, standIns := [], harness := (true, "4982e14d7e6b816143ef947475410f28ce78841f78923bc3c4f68e82710c8bf7"), looks := false }, kinds := [], alts := [], laidByText := true, laidKinds := [.data], laidTests := true, laidLooks := .later }
def ArchiveReadsUptoCardSaid : Prop := Claim7.holds Tryz.pinned (.plain (OpenSpec.upto archiveReadsSpec)) archiveReadsUptoCard

/-- THE SECOND FORM's CARD OF 'satchellaw20.ArchiveFeeds'. -/
def archiveFeedsUptoCard : Claim7 := { stood := { row := archiveFeedsUptoRow, standIns := [], harness := (true, "4982e14d7e6b816143ef947475410f28ce78841f78923bc3c4f68e82710c8bf7"), looks := false }, kinds := [], alts := [], laidByText := true, laidKinds := [.data], laidTests := true, laidLooks := .later }
def ArchiveFeedsUptoCardSaid : Prop := Claim7.holds Tryz.pinned (.plain (OpenSpec.upto archiveFeedsSpec)) archiveFeedsUptoCard

/-- THE SECOND FORM's CARD OF 'satchellaw20.ArchiveThere'. -/
def archiveThereUptoCard : Claim7 := { stood := { row := archiveThereUptoRow, standIns := [], harness := (true, "4982e14d7e6b816143ef947475410f28ce78841f78923bc3c4f68e82710c8bf7"), looks := false }, kinds := [], alts := [], laidByText := true, laidKinds := [.data], laidTests := true, laidLooks := .later }
def ArchiveThereUptoCardSaid : Prop := Claim7.holds Tryz.pinned (.plain (OpenSpec.upto archiveThereSpec)) archiveThereUptoCard

/-- THE SECOND FORM's CARD OF 'satchellaw20.ArchiveOne'. -/
def archiveOneUptoCard : Claim7 := { stood := { row := archiveOneUptoRow, standIns := [], harness := (true, "4982e14d7e6b816143ef947475410f28ce78841f78923bc3c4f68e82710c8bf7"), looks := false }, kinds := [], alts := [], laidByText := true, laidKinds := [.data], laidTests := true, laidLooks := .later }
def ArchiveOneUptoCardSaid : Prop := Claim7.holds Tryz.pinned (.plain (OpenSpec.upto archiveOneSpec)) archiveOneUptoCard

/-- THE SECOND FORM's CARD OF 'satchellaw20.ArchiveBurst'. -/
def archiveBurstUptoCard : Claim7 := { stood := { row := archiveBurstUptoRow, standIns := [], harness := (true, "4982e14d7e6b816143ef947475410f28ce78841f78923bc3c4f68e82710c8bf7"), looks := false }, kinds := [], alts := [], laidByText := true, laidKinds := [.data], laidTests := true, laidLooks := .later }
def ArchiveBurstUptoCardSaid : Prop := Claim7.holds Tryz.pinned (.plain (OpenSpec.upto archiveBurstSpec)) archiveBurstUptoCard

/-- THE SECOND FORM's CARD OF 'satchellaw20.ArchiveOwn'. -/
def archiveOwnUptoCard : Claim7 := { stood := { row := archiveOwnUptoRow, standIns := [], harness := (true, "4982e14d7e6b816143ef947475410f28ce78841f78923bc3c4f68e82710c8bf7"), looks := false }, kinds := [], alts := [], laidByText := true, laidKinds := [.data], laidTests := true, laidLooks := .later }
def ArchiveOwnUptoCardSaid : Prop := Claim7.holds Tryz.pinned (.plain (OpenSpec.upto archiveOwnSpec)) archiveOwnUptoCard
end Rows
end Go.Proofs.YtkopcinhbjimiaaGreatDoor
