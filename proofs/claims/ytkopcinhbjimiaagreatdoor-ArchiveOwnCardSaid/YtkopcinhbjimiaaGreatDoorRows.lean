/-
  NARROWER THAN 'FOR EVERY INPUT', by the rows' own cells (each row's printed sentence says how): ArchiveNames: laid · ArchiveWrites: laid · ArchiveStreams: laid · ArchiveReads: laid · ArchiveFeeds: laid · ArchiveThere: laid · ArchiveOne: laid · ArchiveBurst: laid · ArchiveOwn: laid.
  DERIVED. THE GIVEN ROWS OF THIS SEAT. 9 by the template 'for every input the law returns true; each argument reads behind the call as it read before'; 0 by the template 'total and deterministic' (their statements: YtkopcinhbjimiaaGreatDoorTotals.lean).
  GIVEN WITH THE SEED: the statements are not yours to turn. If you find one false, say at which input.
  Laid BY PROGRAM, IN A SANDBOX (cutbox-rows.mjs): the forced cells as the released guide's own fill.sh prints them over the translation 34cd84c711ae64a4… (all of the seat's roots in one cut). By AI agents, Wed Nov 11 2026. No macro, syntax, notation, axiom, sorry.
-/
import Derived.Test.YtkopcinhbjimiaaGreatDoorChecked
import GoSem.Claim
import GoSem.ClaimJoined
import GoSem.ClaimMapViews
import Derived.JoinedTies
import Derived.KernelRfl
namespace Go.Proofs.YtkopcinhbjimiaaGreatDoor
/- THE CELL 'sum', in the pinned program and in every row, IS THE sha256 OF THE DUMP (.gsa) THAT YtkopcinhbjimiaaGreatDoorProg.lean LOADS. Nothing in Lean hashes anything: it is a label: what it is worth is what the hold of that sum in a sandbox is worth. -/
noncomputable def Tryz.pinned : Pinned := { name := "ytkopcinhbjimiaagreatdoor", sum := "34cd84c711ae64a41561e5891c18eb02bbbaf3bc43f1fc122de0b0300fab3343", checked := Tryz.checked }
namespace Rows
def none {H : Type} : Left H := { results := [], args := [] }

/- WHAT THE LISTED PACKAGE-LEVEL VARIABLES READ AS WHEN THE CALL BEGINS. Each datum BY PROGRAM (the guide's laid-datum.mjs) off the statement by which the dump's own 'gosem.cut.vars' lays the variable. In a bare row this is a premise. The card (YtkopcinhbjimiaaGreatDoorCards.lean) ties it to the program's text. -/
def laid_satchel_crc_nibble {H : Type} : DataW H := .agg [.lit (.int .u32 0), .lit (.int .u32 498536548), .lit (.int .u32 997073096), .lit (.int .u32 651767980), .lit (.int .u32 1994146192), .lit (.int .u32 1802195444), .lit (.int .u32 1303535960), .lit (.int .u32 1342533948), .lit (.int .u32 3988292384), .lit (.int .u32 4027552580), .lit (.int .u32 3604390888), .lit (.int .u32 3412177804), .lit (.int .u32 2607071920), .lit (.int .u32 2262029012), .lit (.int .u32 2685067896), .lit (.int .u32 3183342108)]

/-- 'satchellaw20.ArchiveNames': WHATEVER THE INPUT: true; the input reads as it did. -/
def archiveNamesSpec : ChangeSpec := { name := "archiveNames", fn := fun _ => fun
  | [] => { results := [.lit (.bool true)], args := [] }
  | _ => none }
def archiveNamesRow : OpenClaim := { program := "ytkopcinhbjimiaagreatdoor", sum := "34cd84c711ae64a41561e5891c18eb02bbbaf3bc43f1fc122de0b0300fab3343", func := "satchel/satchellaw20.ArchiveNames", spec := "archiveNames", inPlace := ["internal/bytealg.abigen_runtime_cmpstring", "internal/bytealg.MakeNoZero"], unfollowed := true, recurses := true, named := ["satchel/crc.nibble"], apart := false, laid := [("satchel/crc.nibble", laid_satchel_crc_nibble)] }
def ArchiveNamesSaid : Prop := archiveNamesRow.holds Tryz.pinned (OpenSpec.ofChange archiveNamesSpec)

/-- ITS FALSE NEIGHBOUR: 'it returns false'. Refute it at one input. -/
def archiveNamesWrong : ChangeSpec := { name := "archiveNames", fn := fun _ => fun
  | [] => { results := [.lit (.bool false)], args := [] }
  | _ => none }
def ArchiveNamesWrongFalsely : Prop := archiveNamesRow.holds Tryz.pinned (OpenSpec.ofChange archiveNamesWrong)

/-- 'satchellaw20.ArchiveWrites': WHATEVER THE INPUT: true; the input reads as it did. -/
def archiveWritesSpec : ChangeSpec := { name := "archiveWrites", fn := fun _ => fun
  | [d] => { results := [.lit (.bool true)], args := [d] }
  | _ => none }
def archiveWritesRow : OpenClaim := { program := "ytkopcinhbjimiaagreatdoor", sum := "34cd84c711ae64a41561e5891c18eb02bbbaf3bc43f1fc122de0b0300fab3343", func := "satchel/satchellaw20.ArchiveWrites", spec := "archiveWrites", inPlace := ["internal/bytealg.abigen_runtime_cmpstring", "internal/bytealg.MakeNoZero"], unfollowed := true, recurses := true, named := ["satchel/crc.nibble"], apart := false, laid := [("satchel/crc.nibble", laid_satchel_crc_nibble)] }
def ArchiveWritesSaid : Prop := archiveWritesRow.holds Tryz.pinned (OpenSpec.ofChange archiveWritesSpec)

/-- ITS FALSE NEIGHBOUR: 'it returns false'. Refute it at one input. -/
def archiveWritesWrong : ChangeSpec := { name := "archiveWrites", fn := fun _ => fun
  | [d] => { results := [.lit (.bool false)], args := [d] }
  | _ => none }
def ArchiveWritesWrongFalsely : Prop := archiveWritesRow.holds Tryz.pinned (OpenSpec.ofChange archiveWritesWrong)

/-- 'satchellaw20.ArchiveStreams': WHATEVER THE INPUT: true; the input reads as it did. -/
def archiveStreamsSpec : ChangeSpec := { name := "archiveStreams", fn := fun _ => fun
  | [d] => { results := [.lit (.bool true)], args := [d] }
  | _ => none }
def archiveStreamsRow : OpenClaim := { program := "ytkopcinhbjimiaagreatdoor", sum := "34cd84c711ae64a41561e5891c18eb02bbbaf3bc43f1fc122de0b0300fab3343", func := "satchel/satchellaw20.ArchiveStreams", spec := "archiveStreams", inPlace := ["internal/bytealg.abigen_runtime_cmpstring", "internal/bytealg.MakeNoZero"], unfollowed := true, recurses := true, named := ["satchel/crc.nibble"], apart := false, laid := [("satchel/crc.nibble", laid_satchel_crc_nibble)] }
def ArchiveStreamsSaid : Prop := archiveStreamsRow.holds Tryz.pinned (OpenSpec.ofChange archiveStreamsSpec)

/-- ITS FALSE NEIGHBOUR: 'it returns false'. Refute it at one input. -/
def archiveStreamsWrong : ChangeSpec := { name := "archiveStreams", fn := fun _ => fun
  | [d] => { results := [.lit (.bool false)], args := [d] }
  | _ => none }
def ArchiveStreamsWrongFalsely : Prop := archiveStreamsRow.holds Tryz.pinned (OpenSpec.ofChange archiveStreamsWrong)

/-- 'satchellaw20.ArchiveReads': WHATEVER THE INPUT: true; the input reads as it did. -/
def archiveReadsSpec : ChangeSpec := { name := "archiveReads", fn := fun _ => fun
  | [d] => { results := [.lit (.bool true)], args := [d] }
  | _ => none }
def archiveReadsRow : OpenClaim := { program := "ytkopcinhbjimiaagreatdoor", sum := "34cd84c711ae64a41561e5891c18eb02bbbaf3bc43f1fc122de0b0300fab3343", func := "satchel/satchellaw20.ArchiveReads", spec := "archiveReads", inPlace := ["internal/bytealg.abigen_runtime_cmpstring", "internal/bytealg.MakeNoZero"], unfollowed := true, recurses := true, named := ["satchel/crc.nibble"], apart := false, laid := [("satchel/crc.nibble", laid_satchel_crc_nibble)] }
def ArchiveReadsSaid : Prop := archiveReadsRow.holds Tryz.pinned (OpenSpec.ofChange archiveReadsSpec)

/-- ITS FALSE NEIGHBOUR: 'it returns false'. Refute it at one input. -/
def archiveReadsWrong : ChangeSpec := { name := "archiveReads", fn := fun _ => fun
  | [d] => { results := [.lit (.bool false)], args := [d] }
  | _ => none }
def ArchiveReadsWrongFalsely : Prop := archiveReadsRow.holds Tryz.pinned (OpenSpec.ofChange archiveReadsWrong)

/-- 'satchellaw20.ArchiveFeeds': WHATEVER THE INPUT: true; the input reads as it did. -/
def archiveFeedsSpec : ChangeSpec := { name := "archiveFeeds", fn := fun _ => fun
  | [d1, d2] => { results := [.lit (.bool true)], args := [d1, d2] }
  | _ => none }
def archiveFeedsRow : OpenClaim := { program := "ytkopcinhbjimiaagreatdoor", sum := "34cd84c711ae64a41561e5891c18eb02bbbaf3bc43f1fc122de0b0300fab3343", func := "satchel/satchellaw20.ArchiveFeeds", spec := "archiveFeeds", inPlace := ["internal/bytealg.abigen_runtime_cmpstring", "internal/bytealg.MakeNoZero"], unfollowed := true, recurses := true, named := ["satchel/crc.nibble"], apart := false, laid := [("satchel/crc.nibble", laid_satchel_crc_nibble)] }
def ArchiveFeedsSaid : Prop := archiveFeedsRow.holds Tryz.pinned (OpenSpec.ofChange archiveFeedsSpec)

/-- ITS FALSE NEIGHBOUR: 'it returns false'. Refute it at one input. -/
def archiveFeedsWrong : ChangeSpec := { name := "archiveFeeds", fn := fun _ => fun
  | [d1, d2] => { results := [.lit (.bool false)], args := [d1, d2] }
  | _ => none }
def ArchiveFeedsWrongFalsely : Prop := archiveFeedsRow.holds Tryz.pinned (OpenSpec.ofChange archiveFeedsWrong)

/-- 'satchellaw20.ArchiveThere': WHATEVER THE INPUT: true; the input reads as it did. -/
def archiveThereSpec : ChangeSpec := { name := "archiveThere", fn := fun _ => fun
  | [d] => { results := [.lit (.bool true)], args := [d] }
  | _ => none }
def archiveThereRow : OpenClaim := { program := "ytkopcinhbjimiaagreatdoor", sum := "34cd84c711ae64a41561e5891c18eb02bbbaf3bc43f1fc122de0b0300fab3343", func := "satchel/satchellaw20.ArchiveThere", spec := "archiveThere", inPlace := ["internal/bytealg.abigen_runtime_cmpstring", "internal/bytealg.MakeNoZero"], unfollowed := true, recurses := true, named := ["satchel/crc.nibble"], apart := false, laid := [("satchel/crc.nibble", laid_satchel_crc_nibble)] }
def ArchiveThereSaid : Prop := archiveThereRow.holds Tryz.pinned (OpenSpec.ofChange archiveThereSpec)

/-- ITS FALSE NEIGHBOUR: 'it returns false'. Refute it at one input. -/
def archiveThereWrong : ChangeSpec := { name := "archiveThere", fn := fun _ => fun
  | [d] => { results := [.lit (.bool false)], args := [d] }
  | _ => none }
def ArchiveThereWrongFalsely : Prop := archiveThereRow.holds Tryz.pinned (OpenSpec.ofChange archiveThereWrong)

/-- 'satchellaw20.ArchiveOne': WHATEVER THE INPUT: true; the input reads as it did. -/
def archiveOneSpec : ChangeSpec := { name := "archiveOne", fn := fun _ => fun
  | [d] => { results := [.lit (.bool true)], args := [d] }
  | _ => none }
def archiveOneRow : OpenClaim := { program := "ytkopcinhbjimiaagreatdoor", sum := "34cd84c711ae64a41561e5891c18eb02bbbaf3bc43f1fc122de0b0300fab3343", func := "satchel/satchellaw20.ArchiveOne", spec := "archiveOne", inPlace := ["internal/bytealg.abigen_runtime_cmpstring", "internal/bytealg.MakeNoZero"], unfollowed := true, recurses := true, named := ["satchel/crc.nibble"], apart := false, laid := [("satchel/crc.nibble", laid_satchel_crc_nibble)] }
def ArchiveOneSaid : Prop := archiveOneRow.holds Tryz.pinned (OpenSpec.ofChange archiveOneSpec)

/-- ITS FALSE NEIGHBOUR: 'it returns false'. Refute it at one input. -/
def archiveOneWrong : ChangeSpec := { name := "archiveOne", fn := fun _ => fun
  | [d] => { results := [.lit (.bool false)], args := [d] }
  | _ => none }
def ArchiveOneWrongFalsely : Prop := archiveOneRow.holds Tryz.pinned (OpenSpec.ofChange archiveOneWrong)

/-- 'satchellaw20.ArchiveBurst': WHATEVER THE INPUT: true; the input reads as it did. -/
def archiveBurstSpec : ChangeSpec := { name := "archiveBurst", fn := fun _ => fun
  | [d1, d2, d3] => { results := [.lit (.bool true)], args := [d1, d2, d3] }
  | _ => none }
def archiveBurstRow : OpenClaim := { program := "ytkopcinhbjimiaagreatdoor", sum := "34cd84c711ae64a41561e5891c18eb02bbbaf3bc43f1fc122de0b0300fab3343", func := "satchel/satchellaw20.ArchiveBurst", spec := "archiveBurst", inPlace := ["internal/bytealg.abigen_runtime_cmpstring", "internal/bytealg.MakeNoZero"], unfollowed := true, recurses := true, named := ["satchel/crc.nibble"], apart := false, laid := [("satchel/crc.nibble", laid_satchel_crc_nibble)] }
def ArchiveBurstSaid : Prop := archiveBurstRow.holds Tryz.pinned (OpenSpec.ofChange archiveBurstSpec)

/-- ITS FALSE NEIGHBOUR: 'it returns false'. Refute it at one input. -/
def archiveBurstWrong : ChangeSpec := { name := "archiveBurst", fn := fun _ => fun
  | [d1, d2, d3] => { results := [.lit (.bool false)], args := [d1, d2, d3] }
  | _ => none }
def ArchiveBurstWrongFalsely : Prop := archiveBurstRow.holds Tryz.pinned (OpenSpec.ofChange archiveBurstWrong)

/-- 'satchellaw20.ArchiveOwn': WHATEVER THE INPUT: true; the input reads as it did. -/
def archiveOwnSpec : ChangeSpec := { name := "archiveOwn", fn := fun _ => fun
  | [d] => { results := [.lit (.bool true)], args := [d] }
  | _ => none }
def archiveOwnRow : OpenClaim := { program := "ytkopcinhbjimiaagreatdoor", sum := "34cd84c711ae64a41561e5891c18eb02bbbaf3bc43f1fc122de0b0300fab3343", func := "satchel/satchellaw20.ArchiveOwn", spec := "archiveOwn", inPlace := ["internal/bytealg.abigen_runtime_cmpstring", "internal/bytealg.MakeNoZero"], unfollowed := true, recurses := true, named := ["satchel/crc.nibble"], apart := false, laid := [("satchel/crc.nibble", laid_satchel_crc_nibble)] }
def ArchiveOwnSaid : Prop := archiveOwnRow.holds Tryz.pinned (OpenSpec.ofChange archiveOwnSpec)

/-- ITS FALSE NEIGHBOUR: 'it returns false'. Refute it at one input. -/
def archiveOwnWrong : ChangeSpec := { name := "archiveOwn", fn := fun _ => fun
  | [d] => { results := [.lit (.bool false)], args := [d] }
  | _ => none }
def ArchiveOwnWrongFalsely : Prop := archiveOwnRow.holds Tryz.pinned (OpenSpec.ofChange archiveOwnWrong)

/- THE SECOND FORM. 'bulk': how many values and letters a reading holds, each counted each time it is reached (what is shared counts as often as it is met; a slice's spare places count too). A statement '..UptoSaid' is the law's where the arguments, and the package variables that the reading takes, are together of bulk at most 1048576: NARROWER than '..Said'. Prove '..Said' where nothing that the law and all that it calls make is longer than what came in: it says more and counts as full. Else prove '..UptoSaid'. A law counts once. -/
mutual
def uptoBulk {H : Type} : DataW H → Nat
  | .lit (.string bytes) => bytes.length + 1
  | .lit _ => 1
  | .nil => 1
  | .ptr d => uptoBulk d + 1
  | .slice elems spare => uptoBulkAll elems + uptoBulkAll spare + 1
  | .agg parts => uptoBulkAll parts + 1
  | .iface _ d => uptoBulk d + 1
  | .map entries => uptoBulkEntries entries + 1
  | .held _ => 1
def uptoBulkAll {H : Type} : List (DataW H) → Nat
  | [] => 0
  | d :: r => uptoBulk d + uptoBulkAll r
def uptoBulkEntries {H : Type} : List (Lit × DataW H) → Nat
  | [] => 0
  | x :: r => uptoBulkEntry x + uptoBulkEntries r
def uptoBulkEntry {H : Type} : Lit × DataW H → Nat
  | (.string bytes, d) => bytes.length + uptoBulk d + 1
  | (_, d) => uptoBulk d + 1
 end
def uptoSmall : (H : Type) → List (DataW H) → Bool := fun _ ds => decide (uptoBulkAll ds ≤ 1048576)
def OpenSpec.upto (s : _root_.Go.ChangeSpec) : _root_.Go.OpenSpec := { _root_.Go.OpenSpec.ofChange s with cond := some uptoSmall }

/-- 'satchellaw20.ArchiveNames', WHERE WHAT IT READS IS OF BULK AT MOST 1048576: true; the input reads as it did. -/
def archiveNamesUptoRow : OpenClaim := { program := "ytkopcinhbjimiaagreatdoor", sum := "34cd84c711ae64a41561e5891c18eb02bbbaf3bc43f1fc122de0b0300fab3343", func := "satchel/satchellaw20.ArchiveNames", spec := "archiveNames", inPlace := ["internal/bytealg.abigen_runtime_cmpstring", "internal/bytealg.MakeNoZero"], unfollowed := true, recurses := true, named := ["satchel/crc.nibble"], apart := false, laid := [("satchel/crc.nibble", laid_satchel_crc_nibble)], narrowed := true }
def ArchiveNamesUptoSaid : Prop := archiveNamesUptoRow.holds Tryz.pinned (OpenSpec.upto archiveNamesSpec)

/-- 'satchellaw20.ArchiveWrites', WHERE WHAT IT READS IS OF BULK AT MOST 1048576: true; the input reads as it did. -/
def archiveWritesUptoRow : OpenClaim := { program := "ytkopcinhbjimiaagreatdoor", sum := "34cd84c711ae64a41561e5891c18eb02bbbaf3bc43f1fc122de0b0300fab3343", func := "satchel/satchellaw20.ArchiveWrites", spec := "archiveWrites", inPlace := ["internal/bytealg.abigen_runtime_cmpstring", "internal/bytealg.MakeNoZero"], unfollowed := true, recurses := true, named := ["satchel/crc.nibble"], apart := false, laid := [("satchel/crc.nibble", laid_satchel_crc_nibble)], narrowed := true }
def ArchiveWritesUptoSaid : Prop := archiveWritesUptoRow.holds Tryz.pinned (OpenSpec.upto archiveWritesSpec)

/-- 'satchellaw20.ArchiveStreams', WHERE WHAT IT READS IS OF BULK AT MOST 1048576: true; the input reads as it did. -/
def archiveStreamsUptoRow : OpenClaim := { program := "ytkopcinhbjimiaagreatdoor", sum := "34cd84c711ae64a41561e5891c18eb02bbbaf3bc43f1fc122de0b0300fab3343", func := "satchel/satchellaw20.ArchiveStreams", spec := "archiveStreams", inPlace := ["internal/bytealg.abigen_runtime_cmpstring", "internal/bytealg.MakeNoZero"], unfollowed := true, recurses := true, named := ["satchel/crc.nibble"], apart := false, laid := [("satchel/crc.nibble", laid_satchel_crc_nibble)], narrowed := true }
def ArchiveStreamsUptoSaid : Prop := archiveStreamsUptoRow.holds Tryz.pinned (OpenSpec.upto archiveStreamsSpec)

/-- 'satchellaw20.ArchiveReads', WHERE WHAT IT READS IS OF BULK AT MOST 1048576: true; the input reads as it did. -/
def archiveReadsUptoRow : OpenClaim := { program := "ytkopcinhbjimiaagreatdoor", sum := "34cd84c711ae64a41561e5891c18eb02bbbaf3bc43f1fc122de0b0300fab3343", func := "satchel/satchellaw20.ArchiveReads", spec := "archiveReads", inPlace := ["internal/bytealg.abigen_runtime_cmpstring", "internal/bytealg.MakeNoZero"], unfollowed := true, recurses := true, named := ["satchel/crc.nibble"], apart := false, laid := [("satchel/crc.nibble", laid_satchel_crc_nibble)], narrowed := true }
def ArchiveReadsUptoSaid : Prop := archiveReadsUptoRow.holds Tryz.pinned (OpenSpec.upto archiveReadsSpec)

/-- 'satchellaw20.ArchiveFeeds', WHERE WHAT IT READS IS OF BULK AT MOST 1048576: true; the input reads as it did. -/
def archiveFeedsUptoRow : OpenClaim := { program := "ytkopcinhbjimiaagreatdoor", sum := "34cd84c711ae64a41561e5891c18eb02bbbaf3bc43f1fc122de0b0300fab3343", func := "satchel/satchellaw20.ArchiveFeeds", spec := "archiveFeeds", inPlace := ["internal/bytealg.abigen_runtime_cmpstring", "internal/bytealg.MakeNoZero"], unfollowed := true, recurses := true, named := ["satchel/crc.nibble"], apart := false, laid := [("satchel/crc.nibble", laid_satchel_crc_nibble)], narrowed := true }
def ArchiveFeedsUptoSaid : Prop := archiveFeedsUptoRow.holds Tryz.pinned (OpenSpec.upto archiveFeedsSpec)

/-- 'satchellaw20.ArchiveThere', WHERE WHAT IT READS IS OF BULK AT MOST 1048576: true; the input reads as it did. -/
def archiveThereUptoRow : OpenClaim := { program := "ytkopcinhbjimiaagreatdoor", sum := "34cd84c711ae64a41561e5891c18eb02bbbaf3bc43f1fc122de0b0300fab3343", func := "satchel/satchellaw20.ArchiveThere", spec := "archiveThere", inPlace := ["internal/bytealg.abigen_runtime_cmpstring", "internal/bytealg.MakeNoZero"], unfollowed := true, recurses := true, named := ["satchel/crc.nibble"], apart := false, laid := [("satchel/crc.nibble", laid_satchel_crc_nibble)], narrowed := true }
def ArchiveThereUptoSaid : Prop := archiveThereUptoRow.holds Tryz.pinned (OpenSpec.upto archiveThereSpec)

/-- 'satchellaw20.ArchiveOne', WHERE WHAT IT READS IS OF BULK AT MOST 1048576: true; the input reads as it did. -/
def archiveOneUptoRow : OpenClaim := { program := "ytkopcinhbjimiaagreatdoor", sum := "34cd84c711ae64a41561e5891c18eb02bbbaf3bc43f1fc122de0b0300fab3343", func := "satchel/satchellaw20.ArchiveOne", spec := "archiveOne", inPlace := ["internal/bytealg.abigen_runtime_cmpstring", "internal/bytealg.MakeNoZero"], unfollowed := true, recurses := true, named := ["satchel/crc.nibble"], apart := false, laid := [("satchel/crc.nibble", laid_satchel_crc_nibble)], narrowed := true }
def ArchiveOneUptoSaid : Prop := archiveOneUptoRow.holds Tryz.pinned (OpenSpec.upto archiveOneSpec)

/-- 'satchellaw20.ArchiveBurst', WHERE WHAT IT READS IS OF BULK AT MOST 1048576: true; the input reads as it did. -/
def archiveBurstUptoRow : OpenClaim := { program := "ytkopcinhbjimiaagreatdoor", sum := "34cd84c711ae64a41561e5891c18eb02bbbaf3bc43f1fc122de0b0300fab3343", func := "satchel/satchellaw20.ArchiveBurst", spec := "archiveBurst", inPlace := ["internal/bytealg.abigen_runtime_cmpstring", "internal/bytealg.MakeNoZero"], unfollowed := true, recurses := true, named := ["satchel/crc.nibble"], apart := false, laid := [("satchel/crc.nibble", laid_satchel_crc_nibble)], narrowed := true }
def ArchiveBurstUptoSaid : Prop := archiveBurstUptoRow.holds Tryz.pinned (OpenSpec.upto archiveBurstSpec)

/-- 'satchellaw20.ArchiveOwn', WHERE WHAT IT READS IS OF BULK AT MOST 1048576: true; the input reads as it did. -/
def archiveOwnUptoRow : OpenClaim := { program := "ytkopcinhbjimiaagreatdoor", sum := "34cd84c711ae64a41561e5891c18eb02bbbaf3bc43f1fc122de0b0300fab3343", func := "satchel/satchellaw20.ArchiveOwn", spec := "archiveOwn", inPlace := ["internal/bytealg.abigen_runtime_cmpstring", "internal/bytealg.MakeNoZero"], unfollowed := true, recurses := true, named := ["satchel/crc.nibble"], apart := false, laid := [("satchel/crc.nibble", laid_satchel_crc_nibble)], narrowed := true }
def ArchiveOwnUptoSaid : Prop := archiveOwnUptoRow.holds Tryz.pinned (OpenSpec.upto archiveOwnSpec)

end Rows
end Go.Proofs.YtkopcinhbjimiaaGreatDoor
