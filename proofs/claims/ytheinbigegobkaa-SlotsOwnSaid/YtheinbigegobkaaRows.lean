/-
  No cell of these rows narrows 'for every input' (looked for: loops, veiled, ifaces, maps, wideKeys, modest, calm, conditions, laid).
  DERIVED. THE GIVEN ROWS OF THIS SEAT. 8 by the template 'for every input the law returns true; each argument reads behind the call as it read before'; 0 by the template 'total and deterministic' (their statements: YtheinbigegobkaaTotals.lean).
  GIVEN WITH THE SEED: the statements are not yours to turn. If you find one false, say at which input.
  Laid BY PROGRAM, IN A SANDBOX (cutbox-rows.mjs): the forced cells as the released guide's own fill.sh prints them over the translation df5af5af82820cff… (all of the seat's roots in one cut). By AI agents, Wed Nov 11 2026. No macro, syntax, notation, axiom, sorry.
-/
import Derived.Test.YtheinbigegobkaaChecked
import GoSem.Claim
import GoSem.ClaimJoined
import GoSem.ClaimMapViews
import Derived.JoinedTies
import Derived.KernelRfl
namespace Go.Proofs.Ytheinbigegobkaa
/- THE CELL 'sum', in the pinned program and in every row, IS THE sha256 OF THE DUMP (.gsa) THAT YtheinbigegobkaaProg.lean LOADS. Nothing in Lean hashes anything: it is a label: what it is worth is what the hold of that sum in a sandbox is worth. -/
noncomputable def Try.pinned : Pinned := { name := "ytheinbigegobkaa", sum := "df5af5af82820cff5e5aeeecaefc31f6e9c3d87b734cd24050ea74f1afcb9b76", checked := Try.checked }
namespace Rows
def none {H : Type} : Left H := { results := [], args := [] }

/-- 'satchellaw16.SlotsNames': WHATEVER THE INPUT: true; the input reads as it did. -/
def slotsNamesSpec : ChangeSpec := { name := "slotsNames", fn := fun _ => fun
  | [] => { results := [.lit (.bool true)], args := [] }
  | _ => none }
def slotsNamesRow : OpenClaim := { program := "ytheinbigegobkaa", sum := "df5af5af82820cff5e5aeeecaefc31f6e9c3d87b734cd24050ea74f1afcb9b76", func := "satchel/satchellaw16.SlotsNames", spec := "slotsNames", unfollowed := true, recurses := true, apart := false }
def SlotsNamesSaid : Prop := slotsNamesRow.holds Try.pinned (OpenSpec.ofChange slotsNamesSpec)

/-- ITS FALSE NEIGHBOUR: 'it returns false'. Refute it at one input. -/
def slotsNamesWrong : ChangeSpec := { name := "slotsNames", fn := fun _ => fun
  | [] => { results := [.lit (.bool false)], args := [] }
  | _ => none }
def SlotsNamesWrongFalsely : Prop := slotsNamesRow.holds Try.pinned (OpenSpec.ofChange slotsNamesWrong)

/-- 'satchellaw16.SlotsNeeds': WHATEVER THE INPUT: true; the input reads as it did. -/
def slotsNeedsSpec : ChangeSpec := { name := "slotsNeeds", fn := fun _ => fun
  | [d] => { results := [.lit (.bool true)], args := [d] }
  | _ => none }
def slotsNeedsRow : OpenClaim := { program := "ytheinbigegobkaa", sum := "df5af5af82820cff5e5aeeecaefc31f6e9c3d87b734cd24050ea74f1afcb9b76", func := "satchel/satchellaw16.SlotsNeeds", spec := "slotsNeeds", unfollowed := true, recurses := true, apart := false }
def SlotsNeedsSaid : Prop := slotsNeedsRow.holds Try.pinned (OpenSpec.ofChange slotsNeedsSpec)

/-- ITS FALSE NEIGHBOUR: 'it returns false'. Refute it at one input. -/
def slotsNeedsWrong : ChangeSpec := { name := "slotsNeeds", fn := fun _ => fun
  | [d] => { results := [.lit (.bool false)], args := [d] }
  | _ => none }
def SlotsNeedsWrongFalsely : Prop := slotsNeedsRow.holds Try.pinned (OpenSpec.ofChange slotsNeedsWrong)

/-- 'satchellaw16.SlotsPacks': WHATEVER THE INPUT: true; the input reads as it did. -/
def slotsPacksSpec : ChangeSpec := { name := "slotsPacks", fn := fun _ => fun
  | [d1, d2] => { results := [.lit (.bool true)], args := [d1, d2] }
  | _ => none }
def slotsPacksRow : OpenClaim := { program := "ytheinbigegobkaa", sum := "df5af5af82820cff5e5aeeecaefc31f6e9c3d87b734cd24050ea74f1afcb9b76", func := "satchel/satchellaw16.SlotsPacks", spec := "slotsPacks", unfollowed := true, recurses := true, apart := false }
def SlotsPacksSaid : Prop := slotsPacksRow.holds Try.pinned (OpenSpec.ofChange slotsPacksSpec)

/-- ITS FALSE NEIGHBOUR: 'it returns false'. Refute it at one input. -/
def slotsPacksWrong : ChangeSpec := { name := "slotsPacks", fn := fun _ => fun
  | [d1, d2] => { results := [.lit (.bool false)], args := [d1, d2] }
  | _ => none }
def SlotsPacksWrongFalsely : Prop := slotsPacksRow.holds Try.pinned (OpenSpec.ofChange slotsPacksWrong)

/-- 'satchellaw16.SlotsUnpacks': WHATEVER THE INPUT: true; the input reads as it did. -/
def slotsUnpacksSpec : ChangeSpec := { name := "slotsUnpacks", fn := fun _ => fun
  | [d1, d2] => { results := [.lit (.bool true)], args := [d1, d2] }
  | _ => none }
def slotsUnpacksRow : OpenClaim := { program := "ytheinbigegobkaa", sum := "df5af5af82820cff5e5aeeecaefc31f6e9c3d87b734cd24050ea74f1afcb9b76", func := "satchel/satchellaw16.SlotsUnpacks", spec := "slotsUnpacks", unfollowed := true, recurses := true, apart := false }
def SlotsUnpacksSaid : Prop := slotsUnpacksRow.holds Try.pinned (OpenSpec.ofChange slotsUnpacksSpec)

/-- ITS FALSE NEIGHBOUR: 'it returns false'. Refute it at one input. -/
def slotsUnpacksWrong : ChangeSpec := { name := "slotsUnpacks", fn := fun _ => fun
  | [d1, d2] => { results := [.lit (.bool false)], args := [d1, d2] }
  | _ => none }
def SlotsUnpacksWrongFalsely : Prop := slotsUnpacksRow.holds Try.pinned (OpenSpec.ofChange slotsUnpacksWrong)

/-- 'satchellaw16.SlotsThere': WHATEVER THE INPUT: true; the input reads as it did. -/
def slotsThereSpec : ChangeSpec := { name := "slotsThere", fn := fun _ => fun
  | [d1, d2] => { results := [.lit (.bool true)], args := [d1, d2] }
  | _ => none }
def slotsThereRow : OpenClaim := { program := "ytheinbigegobkaa", sum := "df5af5af82820cff5e5aeeecaefc31f6e9c3d87b734cd24050ea74f1afcb9b76", func := "satchel/satchellaw16.SlotsThere", spec := "slotsThere", unfollowed := true, recurses := true, apart := false }
def SlotsThereSaid : Prop := slotsThereRow.holds Try.pinned (OpenSpec.ofChange slotsThereSpec)

/-- ITS FALSE NEIGHBOUR: 'it returns false'. Refute it at one input. -/
def slotsThereWrong : ChangeSpec := { name := "slotsThere", fn := fun _ => fun
  | [d1, d2] => { results := [.lit (.bool false)], args := [d1, d2] }
  | _ => none }
def SlotsThereWrongFalsely : Prop := slotsThereRow.holds Try.pinned (OpenSpec.ofChange slotsThereWrong)

/-- 'satchellaw16.SlotsBack': WHATEVER THE INPUT: true; the input reads as it did. -/
def slotsBackSpec : ChangeSpec := { name := "slotsBack", fn := fun _ => fun
  | [d1, d2] => { results := [.lit (.bool true)], args := [d1, d2] }
  | _ => none }
def slotsBackRow : OpenClaim := { program := "ytheinbigegobkaa", sum := "df5af5af82820cff5e5aeeecaefc31f6e9c3d87b734cd24050ea74f1afcb9b76", func := "satchel/satchellaw16.SlotsBack", spec := "slotsBack", unfollowed := true, recurses := true, apart := false }
def SlotsBackSaid : Prop := slotsBackRow.holds Try.pinned (OpenSpec.ofChange slotsBackSpec)

/-- ITS FALSE NEIGHBOUR: 'it returns false'. Refute it at one input. -/
def slotsBackWrong : ChangeSpec := { name := "slotsBack", fn := fun _ => fun
  | [d1, d2] => { results := [.lit (.bool false)], args := [d1, d2] }
  | _ => none }
def SlotsBackWrongFalsely : Prop := slotsBackRow.holds Try.pinned (OpenSpec.ofChange slotsBackWrong)

/-- 'satchellaw16.SlotsInline': WHATEVER THE INPUT: true; the input reads as it did. -/
def slotsInlineSpec : ChangeSpec := { name := "slotsInline", fn := fun _ => fun
  | [d1, d2] => { results := [.lit (.bool true)], args := [d1, d2] }
  | _ => none }
def slotsInlineRow : OpenClaim := { program := "ytheinbigegobkaa", sum := "df5af5af82820cff5e5aeeecaefc31f6e9c3d87b734cd24050ea74f1afcb9b76", func := "satchel/satchellaw16.SlotsInline", spec := "slotsInline", unfollowed := true, recurses := true, apart := false }
def SlotsInlineSaid : Prop := slotsInlineRow.holds Try.pinned (OpenSpec.ofChange slotsInlineSpec)

/-- ITS FALSE NEIGHBOUR: 'it returns false'. Refute it at one input. -/
def slotsInlineWrong : ChangeSpec := { name := "slotsInline", fn := fun _ => fun
  | [d1, d2] => { results := [.lit (.bool false)], args := [d1, d2] }
  | _ => none }
def SlotsInlineWrongFalsely : Prop := slotsInlineRow.holds Try.pinned (OpenSpec.ofChange slotsInlineWrong)

/-- 'satchellaw16.SlotsOwn': WHATEVER THE INPUT: true; the input reads as it did. -/
def slotsOwnSpec : ChangeSpec := { name := "slotsOwn", fn := fun _ => fun
  | [d1, d2] => { results := [.lit (.bool true)], args := [d1, d2] }
  | _ => none }
def slotsOwnRow : OpenClaim := { program := "ytheinbigegobkaa", sum := "df5af5af82820cff5e5aeeecaefc31f6e9c3d87b734cd24050ea74f1afcb9b76", func := "satchel/satchellaw16.SlotsOwn", spec := "slotsOwn", unfollowed := true, recurses := true, apart := false }
def SlotsOwnSaid : Prop := slotsOwnRow.holds Try.pinned (OpenSpec.ofChange slotsOwnSpec)

/-- ITS FALSE NEIGHBOUR: 'it returns false'. Refute it at one input. -/
def slotsOwnWrong : ChangeSpec := { name := "slotsOwn", fn := fun _ => fun
  | [d1, d2] => { results := [.lit (.bool false)], args := [d1, d2] }
  | _ => none }
def SlotsOwnWrongFalsely : Prop := slotsOwnRow.holds Try.pinned (OpenSpec.ofChange slotsOwnWrong)

/- THE SECOND FORM. 'bulk': how many values and letters a reading holds, each counted each time it is reached (what is shared counts as often as it is met; a slice's spare places count too). A statement '..UptoSaid' is the law's where the arguments, and the package variables that the reading takes, are together of bulk at most 1048576: NARROWER than '..Said'. Prove '..Said' where nothing that the law and all that it calls make is longer than what came in: it says more and counts as full. Else prove '..UptoSaid'. A law counts once. -/
mutual
def uptoBulk {H : Type} : DataW H → Nat
  | .lit (.string bytes) => bytes.length + 1
  | .lit _ => 1
  | .nil => 1
  | .ptr d => uptoBulk d + 1
  | .slice elems spare => uptoBulkAll elems + uptoBulkAll spare + 1
  | .agg parts => uptoBulkAll parts + 1
  | .iface _ d => uptoBulk d + 1
  | .map entries => uptoBulkEntries entries + 1
  | .held _ => 1
def uptoBulkAll {H : Type} : List (DataW H) → Nat
  | [] => 0
  | d :: r => uptoBulk d + uptoBulkAll r
def uptoBulkEntries {H : Type} : List (Lit × DataW H) → Nat
  | [] => 0
  | x :: r => uptoBulkEntry x + uptoBulkEntries r
def uptoBulkEntry {H : Type} : Lit × DataW H → Nat
  | (.string bytes, d) => bytes.length + uptoBulk d + 1
  | (_, d) => uptoBulk d + 1
 end
def uptoSmall : (H : Type) → List (DataW H) → Bool := fun _ ds => decide (uptoBulkAll ds ≤ 1048576)
def OpenSpec.upto (s : _root_.Go.ChangeSpec) : _root_.Go.OpenSpec := { _root_.Go.OpenSpec.ofChange s with cond := some uptoSmall }

/-- 'satchellaw16.SlotsNames', WHERE WHAT IT READS IS OF BULK AT MOST 1048576: true; the input reads as it did. -/
def slotsNamesUptoRow : OpenClaim := { program := "ytheinbigegobkaa", sum := "df5af5af82820cff5e5aeeecaefc31f6e9c3d87b734cd24050ea74f1afcb9b76", func := "satchel/satchellaw16.SlotsNames", spec := "slotsNames", unfollowed := true, recurses := true, apart := false, narrowed := true }
def SlotsNamesUptoSaid : Prop := slotsNamesUptoRow.holds Try.pinned (OpenSpec.upto slotsNamesSpec)

/-- 'satchellaw16.SlotsNeeds', WHERE WHAT IT READS IS OF BULK AT MOST 1048576: true; the input reads as it did. -/
def slotsNeedsUptoRow : OpenClaim := { program := "ytheinbigegobkaa", sum := "df5af5af82820cff5e5aeeecaefc31f6e9c3d87b734cd24050ea74f1afcb9b76", func := "satchel/satchellaw16.SlotsNeeds", spec := "slotsNeeds", unfollowed := true, recurses := true, apart := false, narrowed := true }
def SlotsNeedsUptoSaid : Prop := slotsNeedsUptoRow.holds Try.pinned (OpenSpec.upto slotsNeedsSpec)

/-- 'satchellaw16.SlotsPacks', WHERE WHAT IT READS IS OF BULK AT MOST 1048576: true; the input reads as it did. -/
def slotsPacksUptoRow : OpenClaim := { program := "ytheinbigegobkaa", sum := "df5af5af82820cff5e5aeeecaefc31f6e9c3d87b734cd24050ea74f1afcb9b76", func := "satchel/satchellaw16.SlotsPacks", spec := "slotsPacks", unfollowed := true, recurses := true, apart := false, narrowed := true }
def SlotsPacksUptoSaid : Prop := slotsPacksUptoRow.holds Try.pinned (OpenSpec.upto slotsPacksSpec)

/-- 'satchellaw16.SlotsUnpacks', WHERE WHAT IT READS IS OF BULK AT MOST 1048576: true; the input reads as it did. -/
def slotsUnpacksUptoRow : OpenClaim := { program := "ytheinbigegobkaa", sum := "df5af5af82820cff5e5aeeecaefc31f6e9c3d87b734cd24050ea74f1afcb9b76", func := "satchel/satchellaw16.SlotsUnpacks", spec := "slotsUnpacks", unfollowed := true, recurses := true, apart := false, narrowed := true }
def SlotsUnpacksUptoSaid : Prop := slotsUnpacksUptoRow.holds Try.pinned (OpenSpec.upto slotsUnpacksSpec)

/-- 'satchellaw16.SlotsThere', WHERE WHAT IT READS IS OF BULK AT MOST 1048576: true; the input reads as it did. -/
def slotsThereUptoRow : OpenClaim := { program := "ytheinbigegobkaa", sum := "df5af5af82820cff5e5aeeecaefc31f6e9c3d87b734cd24050ea74f1afcb9b76", func := "satchel/satchellaw16.SlotsThere", spec := "slotsThere", unfollowed := true, recurses := true, apart := false, narrowed := true }
def SlotsThereUptoSaid : Prop := slotsThereUptoRow.holds Try.pinned (OpenSpec.upto slotsThereSpec)

/-- 'satchellaw16.SlotsBack', WHERE WHAT IT READS IS OF BULK AT MOST 1048576: true; the input reads as it did. -/
def slotsBackUptoRow : OpenClaim := { program := "ytheinbigegobkaa", sum := "df5af5af82820cff5e5aeeecaefc31f6e9c3d87b734cd24050ea74f1afcb9b76", func := "satchel/satchellaw16.SlotsBack", spec := "slotsBack", unfollowed := true, recurses := true, apart := false, narrowed := true }
def SlotsBackUptoSaid : Prop := slotsBackUptoRow.holds Try.pinned (OpenSpec.upto slotsBackSpec)

/-- 'satchellaw16.SlotsInline', WHERE WHAT IT READS IS OF BULK AT MOST 1048576: true; the input reads as it did. -/
def slotsInlineUptoRow : OpenClaim := { program := "ytheinbigegobkaa", sum := "df5af5af82820cff5e5aeeecaefc31f6e9c3d87b734cd24050ea74f1afcb9b76", func := "satchel/satchellaw16.SlotsInline", spec := "slotsInline", unfollowed := true, recurses := true, apart := false, narrowed := true }
def SlotsInlineUptoSaid : Prop := slotsInlineUptoRow.holds Try.pinned (OpenSpec.upto slotsInlineSpec)

/-- 'satchellaw16.SlotsOwn', WHERE WHAT IT READS IS OF BULK AT MOST 1048576: true; the input reads as it did. -/
def slotsOwnUptoRow : OpenClaim := { program := "ytheinbigegobkaa", sum := "df5af5af82820cff5e5aeeecaefc31f6e9c3d87b734cd24050ea74f1afcb9b76", func := "satchel/satchellaw16.SlotsOwn", spec := "slotsOwn", unfollowed := true, recurses := true, apart := false, narrowed := true }
def SlotsOwnUptoSaid : Prop := slotsOwnUptoRow.holds Try.pinned (OpenSpec.upto slotsOwnSpec)

end Rows
end Go.Proofs.Ytheinbigegobkaa
