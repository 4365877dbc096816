/-
  NARROWER THAN 'FOR EVERY INPUT', by the rows' own cells (each row's printed sentence says how): StoreoneNames: laid · StoreoneThere: laid · StoreoneSizes: laid · StoreoneFresh: laid.
  DERIVED. THE GIVEN ROWS OF THIS SEAT. 4 by the template 'for every input the law returns true; each argument reads behind the call as it read before'; 0 by the template 'total and deterministic' (their statements: YtmkjfhnlnhceiaaGreatDoorTotals.lean).
  GIVEN WITH THE SEED: the statements are not yours to turn. If you find one false, say at which input.
  Laid BY PROGRAM, IN A SANDBOX (cutbox-rows.mjs): the forced cells as the released guide's own fill.sh prints them over the translation 1581ec8613466305… (all of the seat's roots in one cut). By AI agents, Wed Nov 11 2026. No macro, syntax, notation, axiom, sorry.
-/
import Derived.Test.YtmkjfhnlnhceiaaGreatDoorChecked
import GoSem.Claim
import GoSem.ClaimJoined
import GoSem.ClaimMapViews
import Derived.JoinedTies
import Derived.KernelRfl
namespace Go.Proofs.YtmkjfhnlnhceiaaGreatDoor
/- THE CELL 'sum', in the pinned program and in every row, IS THE sha256 OF THE DUMP (.gsa) THAT YtmkjfhnlnhceiaaGreatDoorProg.lean LOADS. Nothing in Lean hashes anything: it is a label: what it is worth is what the hold of that sum in a sandbox is worth. -/
noncomputable def Tryz.pinned : Pinned := { name := "ytmkjfhnlnhceiaagreatdoor", sum := "1581ec8613466305b2c83f6b2297efab35e3b3fdc5245556eab4a3df4a5114c1", checked := Tryz.checked }
namespace Rows
def none {H : Type} : Left H := { results := [], args := [] }

/- WHAT THE LISTED PACKAGE-LEVEL VARIABLES READ AS WHEN THE CALL BEGINS. Each datum BY PROGRAM (the guide's laid-datum.mjs) off the statement by which the dump's own 'gosem.cut.vars' lays the variable. In a bare row this is a premise. The card (YtmkjfhnlnhceiaaGreatDoorCards.lean) ties it to the program's text. -/
def laid_satchel_crc_nibble {H : Type} : DataW H := .agg [.lit (.int .u32 0), .lit (.int .u32 498536548), .lit (.int .u32 997073096), .lit (.int .u32 651767980), .lit (.int .u32 1994146192), .lit (.int .u32 1802195444), .lit (.int .u32 1303535960), .lit (.int .u32 1342533948), .lit (.int .u32 3988292384), .lit (.int .u32 4027552580), .lit (.int .u32 3604390888), .lit (.int .u32 3412177804), .lit (.int .u32 2607071920), .lit (.int .u32 2262029012), .lit (.int .u32 2685067896), .lit (.int .u32 3183342108)]

/-- 'satchellaw14.StoreoneNames': WHATEVER THE INPUT: true; the input reads as it did. -/
def storeoneNamesSpec : ChangeSpec := { name := "storeoneNames", fn := fun _ => fun
  | [] => { results := [.lit (.bool true)], args := [] }
  | _ => none }
def storeoneNamesRow : OpenClaim := { program := "ytmkjfhnlnhceiaagreatdoor", sum := "1581ec8613466305b2c83f6b2297efab35e3b3fdc5245556eab4a3df4a5114c1", func := "satchel/satchellaw14.StoreoneNames", spec := "storeoneNames", inPlace := ["internal/bytealg.abigen_runtime_cmpstring"], unfollowed := true, recurses := true, named := ["satchel/crc.nibble"], apart := false, laid := [("satchel/crc.nibble", laid_satchel_crc_nibble)] }
def StoreoneNamesSaid : Prop := storeoneNamesRow.holds Tryz.pinned (OpenSpec.ofChange storeoneNamesSpec)

/-- ITS FALSE NEIGHBOUR: 'it returns false'. Refute it at one input. -/
def storeoneNamesWrong : ChangeSpec := { name := "storeoneNames", fn := fun _ => fun
  | [] => { results := [.lit (.bool false)], args := [] }
  | _ => none }
def StoreoneNamesWrongFalsely : Prop := storeoneNamesRow.holds Tryz.pinned (OpenSpec.ofChange storeoneNamesWrong)

/-- 'satchellaw14.StoreoneThere': WHATEVER THE INPUT: true; the input reads as it did. -/
def storeoneThereSpec : ChangeSpec := { name := "storeoneThere", fn := fun _ => fun
  | [d] => { results := [.lit (.bool true)], args := [d] }
  | _ => none }
def storeoneThereRow : OpenClaim := { program := "ytmkjfhnlnhceiaagreatdoor", sum := "1581ec8613466305b2c83f6b2297efab35e3b3fdc5245556eab4a3df4a5114c1", func := "satchel/satchellaw14.StoreoneThere", spec := "storeoneThere", inPlace := ["internal/bytealg.abigen_runtime_cmpstring"], unfollowed := true, recurses := true, named := ["satchel/crc.nibble"], apart := false, laid := [("satchel/crc.nibble", laid_satchel_crc_nibble)] }
def StoreoneThereSaid : Prop := storeoneThereRow.holds Tryz.pinned (OpenSpec.ofChange storeoneThereSpec)

/-- ITS FALSE NEIGHBOUR: 'it returns false'. Refute it at one input. -/
def storeoneThereWrong : ChangeSpec := { name := "storeoneThere", fn := fun _ => fun
  | [d] => { results := [.lit (.bool false)], args := [d] }
  | _ => none }
def StoreoneThereWrongFalsely : Prop := storeoneThereRow.holds Tryz.pinned (OpenSpec.ofChange storeoneThereWrong)

/-- 'satchellaw14.StoreoneSizes': WHATEVER THE INPUT: true; the input reads as it did. -/
def storeoneSizesSpec : ChangeSpec := { name := "storeoneSizes", fn := fun _ => fun
  | [d] => { results := [.lit (.bool true)], args := [d] }
  | _ => none }
def storeoneSizesRow : OpenClaim := { program := "ytmkjfhnlnhceiaagreatdoor", sum := "1581ec8613466305b2c83f6b2297efab35e3b3fdc5245556eab4a3df4a5114c1", func := "satchel/satchellaw14.StoreoneSizes", spec := "storeoneSizes", inPlace := ["internal/bytealg.abigen_runtime_cmpstring"], unfollowed := true, recurses := true, named := ["satchel/crc.nibble"], apart := false, laid := [("satchel/crc.nibble", laid_satchel_crc_nibble)] }
def StoreoneSizesSaid : Prop := storeoneSizesRow.holds Tryz.pinned (OpenSpec.ofChange storeoneSizesSpec)

/-- ITS FALSE NEIGHBOUR: 'it returns false'. Refute it at one input. -/
def storeoneSizesWrong : ChangeSpec := { name := "storeoneSizes", fn := fun _ => fun
  | [d] => { results := [.lit (.bool false)], args := [d] }
  | _ => none }
def StoreoneSizesWrongFalsely : Prop := storeoneSizesRow.holds Tryz.pinned (OpenSpec.ofChange storeoneSizesWrong)

/-- 'satchellaw14.StoreoneFresh': WHATEVER THE INPUT: true; the input reads as it did. -/
def storeoneFreshSpec : ChangeSpec := { name := "storeoneFresh", fn := fun _ => fun
  | [d] => { results := [.lit (.bool true)], args := [d] }
  | _ => none }
def storeoneFreshRow : OpenClaim := { program := "ytmkjfhnlnhceiaagreatdoor", sum := "1581ec8613466305b2c83f6b2297efab35e3b3fdc5245556eab4a3df4a5114c1", func := "satchel/satchellaw14.StoreoneFresh", spec := "storeoneFresh", inPlace := ["internal/bytealg.abigen_runtime_cmpstring"], unfollowed := true, recurses := true, named := ["satchel/crc.nibble"], apart := false, laid := [("satchel/crc.nibble", laid_satchel_crc_nibble)] }
def StoreoneFreshSaid : Prop := storeoneFreshRow.holds Tryz.pinned (OpenSpec.ofChange storeoneFreshSpec)

/-- ITS FALSE NEIGHBOUR: 'it returns false'. Refute it at one input. -/
def storeoneFreshWrong : ChangeSpec := { name := "storeoneFresh", fn := fun _ => fun
  | [d] => { results := [.lit (.bool false)], args := [d] }
  | _ => none }
def StoreoneFreshWrongFalsely : Prop := storeoneFreshRow.holds Tryz.pinned (OpenSpec.ofChange storeoneFreshWrong)

/- THE SECOND FORM. 'bulk': how many values and letters a reading holds, each counted each time it is reached (what is shared counts as often as it is met; a slice's spare places count too). A statement '..UptoSaid' is the law's where the arguments, and the package variables that the reading takes, are together of bulk at most 1048576: NARROWER than '..Said'. Prove '..Said' where nothing that the law and all that it calls make is longer than what came in: it says more and counts as full. Else prove '..UptoSaid'. A law counts once. -/
mutual
def uptoBulk {H : Type} : DataW H → Nat
  | .lit (.string bytes) => bytes.length + 1
  | .lit _ => 1
  | .nil => 1
  | .ptr d => uptoBulk d + 1
  | .slice elems spare => uptoBulkAll elems + uptoBulkAll spare + 1
  | .agg parts => uptoBulkAll parts + 1
  | .iface _ d => uptoBulk d + 1
  | .map entries => uptoBulkEntries entries + 1
  | .held _ => 1
def uptoBulkAll {H : Type} : List (DataW H) → Nat
  | [] => 0
  | d :: r => uptoBulk d + uptoBulkAll r
def uptoBulkEntries {H : Type} : List (Lit × DataW H) → Nat
  | [] => 0
  | x :: r => uptoBulkEntry x + uptoBulkEntries r
def uptoBulkEntry {H : Type} : Lit × DataW H → Nat
  | (.string bytes, d) => bytes.length + uptoBulk d + 1
  | (_, d) => uptoBulk d + 1
 end
def uptoSmall : (H : Type) → List (DataW H) → Bool := fun _ ds => decide (uptoBulkAll ds ≤ 1048576)
def OpenSpec.upto (s : _root_.Go.ChangeSpec) : _root_.Go.OpenSpec := { _root_.Go.OpenSpec.ofChange s with cond := some uptoSmall }

/-- 'satchellaw14.StoreoneNames', WHERE WHAT IT READS IS OF BULK AT MOST 1048576: true; the input reads as it did. -/
def storeoneNamesUptoRow : OpenClaim := { program := "ytmkjfhnlnhceiaagreatdoor", sum := "1581ec8613466305b2c83f6b2297efab35e3b3fdc5245556eab4a3df4a5114c1", func := "satchel/satchellaw14.StoreoneNames", spec := "storeoneNames", inPlace := ["internal/bytealg.abigen_runtime_cmpstring"], unfollowed := true, recurses := true, named := ["satchel/crc.nibble"], apart := false, laid := [("satchel/crc.nibble", laid_satchel_crc_nibble)], narrowed := true }
def StoreoneNamesUptoSaid : Prop := storeoneNamesUptoRow.holds Tryz.pinned (OpenSpec.upto storeoneNamesSpec)

/-- 'satchellaw14.StoreoneThere', WHERE WHAT IT READS IS OF BULK AT MOST 1048576: true; the input reads as it did. -/
def storeoneThereUptoRow : OpenClaim := { program := "ytmkjfhnlnhceiaagreatdoor", sum := "1581ec8613466305b2c83f6b2297efab35e3b3fdc5245556eab4a3df4a5114c1", func := "satchel/satchellaw14.StoreoneThere", spec := "storeoneThere", inPlace := ["internal/bytealg.abigen_runtime_cmpstring"], unfollowed := true, recurses := true, named := ["satchel/crc.nibble"], apart := false, laid := [("satchel/crc.nibble", laid_satchel_crc_nibble)], narrowed := true }
def StoreoneThereUptoSaid : Prop := storeoneThereUptoRow.holds Tryz.pinned (OpenSpec.upto storeoneThereSpec)

/-- 'satchellaw14.StoreoneSizes', WHERE WHAT IT READS IS OF BULK AT MOST 1048576: true; the input reads as it did. -/
def storeoneSizesUptoRow : OpenClaim := { program := "ytmkjfhnlnhceiaagreatdoor", sum := "1581ec8613466305b2c83f6b2297efab35e3b3fdc5245556eab4a3df4a5114c1", func := "satchel/satchellaw14.StoreoneSizes", spec := "storeoneSizes", inPlace := ["internal/bytealg.abigen_runtime_cmpstring"], unfollowed := true, recurses := true, named := ["satchel/crc.nibble"], apart := false, laid := [("satchel/crc.nibble", laid_satchel_crc_nibble)], narrowed := true }
def StoreoneSizesUptoSaid : Prop := storeoneSizesUptoRow.holds Tryz.pinned (OpenSpec.upto storeoneSizesSpec)

/-- 'satchellaw14.StoreoneFresh', WHERE WHAT IT READS IS OF BULK AT MOST 1048576: true; the input reads as it did. -/
def storeoneFreshUptoRow : OpenClaim := { program := "ytmkjfhnlnhceiaagreatdoor", sum := "1581ec8613466305b2c83f6b2297efab35e3b3fdc5245556eab4a3df4a5114c1", func := "satchel/satchellaw14.StoreoneFresh", spec := "storeoneFresh", inPlace := ["internal/bytealg.abigen_runtime_cmpstring"], unfollowed := true, recurses := true, named := ["satchel/crc.nibble"], apart := false, laid := [("satchel/crc.nibble", laid_satchel_crc_nibble)], narrowed := true }
def StoreoneFreshUptoSaid : Prop := storeoneFreshUptoRow.holds Tryz.pinned (OpenSpec.upto storeoneFreshSpec)

end Rows
end Go.Proofs.YtmkjfhnlnhceiaaGreatDoor
