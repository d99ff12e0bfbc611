/-
  NARROWER THAN 'FOR EVERY INPUT', by the rows' own cells (each row's printed sentence says how): WatchApart: laid · WatchNumbers: laid · WatchOnce: laid · WatchMany: laid · WatchActs: laid · WatchReads: laid.
  DERIVED. THE GIVEN ROWS OF THIS SEAT. 6 by the template 'for every input the law returns true; each argument reads behind the call as it read before'; 0 by the template 'total and deterministic' (their statements: YtmlnhiodabielaaDoorTotals.lean).
  GIVEN WITH THE SEED: the statements are not yours to turn. If you find one false, say at which input.
  Laid BY PROGRAM, IN A SANDBOX (cutbox-rows.mjs): the forced cells as the released guide's own fill.sh prints them over the translation 6dab12e11cd72457… (all of the seat's roots in one cut). By AI agents, Wed Nov 11 2026. No macro, syntax, notation, axiom, sorry.
-/
import Derived.Test.YtmlnhiodabielaaDoorChecked
import GoSem.PinnedTables
import GoSem.Claim
import GoSem.ClaimJoined
import GoSem.ClaimMapViews
import Derived.JoinedTies
import Derived.KernelRfl
namespace Go.Proofs.YtmlnhiodabielaaDoor
/- THE CELL 'sum', in the pinned program and in every row, IS THE sha256 OF THE DUMP (.gsa) THAT YtmlnhiodabielaaDoorProg.lean LOADS. Nothing in Lean hashes anything: it is a label: what it is worth is what the hold of that sum in a sandbox is worth. -/
noncomputable def Tryd.pinned : Pinned := { name := "ytmlnhiodabielaadoor", sum := "6dab12e11cd72457a4ca616cb15a3868ef56fc8173d29cdb54e623697f25f8ad", checked := Tryd.checked }
namespace Rows
def none {H : Type} : Left H := { results := [], args := [] }

/- WHAT THE LISTED PACKAGE-LEVEL VARIABLES READ AS WHEN THE CALL BEGINS. Each datum BY PROGRAM (the guide's laid-datum.mjs) off the statement by which the dump's own 'gosem.cut.vars' lays the variable. In a bare row this is a premise. The card (YtmlnhiodabielaaDoorCards.lean) ties it to the program's text. -/
def laid_unicode_utf8_acceptRanges {H : Type} : DataW H := .agg [.agg [.lit (.int .u8 128), .lit (.int .u8 191)], .agg [.lit (.int .u8 160), .lit (.int .u8 191)], .agg [.lit (.int .u8 128), .lit (.int .u8 159)], .agg [.lit (.int .u8 144), .lit (.int .u8 191)], .agg [.lit (.int .u8 128), .lit (.int .u8 143)], .agg [.lit (.int .u8 0), .lit (.int .u8 0)], .agg [.lit (.int .u8 0), .lit (.int .u8 0)], .agg [.lit (.int .u8 0), .lit (.int .u8 0)], .agg [.lit (.int .u8 0), .lit (.int .u8 0)], .agg [.lit (.int .u8 0), .lit (.int .u8 0)], .agg [.lit (.int .u8 0), .lit (.int .u8 0)], .agg [.lit (.int .u8 0), .lit (.int .u8 0)], .agg [.lit (.int .u8 0), .lit (.int .u8 0)], .agg [.lit (.int .u8 0), .lit (.int .u8 0)], .agg [.lit (.int .u8 0), .lit (.int .u8 0)], .agg [.lit (.int .u8 0), .lit (.int .u8 0)]]
/-- One of Go's own tables, pinned by name: the form's constant. -/
def laid_unicode_utf8_first : DataW Unit := Go.Pinned.utf8First

/-- 'orchardlaw11.WatchApart': WHATEVER THE INPUT: true; the input reads as it did. -/
def watchApartSpec : ChangeSpec := { name := "watchApart", fn := fun _ => fun
  | [d1, d2] => { results := [.lit (.bool true)], args := [d1, d2] }
  | _ => none }
def watchApartRow : OpenClaim := { program := "ytmlnhiodabielaadoor", sum := "6dab12e11cd72457a4ca616cb15a3868ef56fc8173d29cdb54e623697f25f8ad", func := "orchard/orchardlaw11.WatchApart", spec := "watchApart", inPlace := ["internal/bytealg.CountString", "internal/bytealg.IndexByteString", "internal/bytealg.IndexString", "slices.overlaps[orchard/watch.Watch]"], unfollowed := true, recurses := true, named := ["unicode/utf8.first", "unicode/utf8.acceptRanges", "internal/bytealg.MaxLen"], apart := false, laid := [("unicode/utf8.acceptRanges", laid_unicode_utf8_acceptRanges), ("unicode/utf8.first", laid_unicode_utf8_first)] }
def WatchApartSaid : Prop := watchApartRow.holds Tryd.pinned (OpenSpec.ofChange watchApartSpec)

/-- ITS FALSE NEIGHBOUR: 'it returns false'. Refute it at one input. -/
def watchApartWrong : ChangeSpec := { name := "watchApart", fn := fun _ => fun
  | [d1, d2] => { results := [.lit (.bool false)], args := [d1, d2] }
  | _ => none }
def WatchApartWrongFalsely : Prop := watchApartRow.holds Tryd.pinned (OpenSpec.ofChange watchApartWrong)

/-- 'orchardlaw11.WatchNumbers': WHATEVER THE INPUT: true; the input reads as it did. -/
def watchNumbersSpec : ChangeSpec := { name := "watchNumbers", fn := fun _ => fun
  | [d] => { results := [.lit (.bool true)], args := [d] }
  | _ => none }
def watchNumbersRow : OpenClaim := { program := "ytmlnhiodabielaadoor", sum := "6dab12e11cd72457a4ca616cb15a3868ef56fc8173d29cdb54e623697f25f8ad", func := "orchard/orchardlaw11.WatchNumbers", spec := "watchNumbers", inPlace := ["internal/bytealg.CountString", "internal/bytealg.IndexByteString", "internal/bytealg.IndexString", "slices.overlaps[orchard/watch.Watch]"], unfollowed := true, recurses := true, named := ["unicode/utf8.first", "unicode/utf8.acceptRanges", "internal/bytealg.MaxLen"], apart := false, laid := [("unicode/utf8.acceptRanges", laid_unicode_utf8_acceptRanges), ("unicode/utf8.first", laid_unicode_utf8_first)] }
def WatchNumbersSaid : Prop := watchNumbersRow.holds Tryd.pinned (OpenSpec.ofChange watchNumbersSpec)

/-- ITS FALSE NEIGHBOUR: 'it returns false'. Refute it at one input. -/
def watchNumbersWrong : ChangeSpec := { name := "watchNumbers", fn := fun _ => fun
  | [d] => { results := [.lit (.bool false)], args := [d] }
  | _ => none }
def WatchNumbersWrongFalsely : Prop := watchNumbersRow.holds Tryd.pinned (OpenSpec.ofChange watchNumbersWrong)

/-- 'orchardlaw11.WatchOnce': WHATEVER THE INPUT: true; the input reads as it did. -/
def watchOnceSpec : ChangeSpec := { name := "watchOnce", fn := fun _ => fun
  | [d1, d2] => { results := [.lit (.bool true)], args := [d1, d2] }
  | _ => none }
def watchOnceRow : OpenClaim := { program := "ytmlnhiodabielaadoor", sum := "6dab12e11cd72457a4ca616cb15a3868ef56fc8173d29cdb54e623697f25f8ad", func := "orchard/orchardlaw11.WatchOnce", spec := "watchOnce", inPlace := ["internal/bytealg.CountString", "internal/bytealg.IndexByteString", "internal/bytealg.IndexString", "slices.overlaps[orchard/watch.Watch]"], unfollowed := true, recurses := true, named := ["unicode/utf8.first", "unicode/utf8.acceptRanges", "internal/bytealg.MaxLen"], apart := false, laid := [("unicode/utf8.acceptRanges", laid_unicode_utf8_acceptRanges), ("unicode/utf8.first", laid_unicode_utf8_first)] }
def WatchOnceSaid : Prop := watchOnceRow.holds Tryd.pinned (OpenSpec.ofChange watchOnceSpec)

/-- ITS FALSE NEIGHBOUR: 'it returns false'. Refute it at one input. -/
def watchOnceWrong : ChangeSpec := { name := "watchOnce", fn := fun _ => fun
  | [d1, d2] => { results := [.lit (.bool false)], args := [d1, d2] }
  | _ => none }
def WatchOnceWrongFalsely : Prop := watchOnceRow.holds Tryd.pinned (OpenSpec.ofChange watchOnceWrong)

/-- 'orchardlaw11.WatchMany': WHATEVER THE INPUT: true; the input reads as it did. -/
def watchManySpec : ChangeSpec := { name := "watchMany", fn := fun _ => fun
  | [d] => { results := [.lit (.bool true)], args := [d] }
  | _ => none }
def watchManyRow : OpenClaim := { program := "ytmlnhiodabielaadoor", sum := "6dab12e11cd72457a4ca616cb15a3868ef56fc8173d29cdb54e623697f25f8ad", func := "orchard/orchardlaw11.WatchMany", spec := "watchMany", inPlace := ["internal/bytealg.CountString", "internal/bytealg.IndexByteString", "internal/bytealg.IndexString", "slices.overlaps[orchard/watch.Watch]"], unfollowed := true, recurses := true, named := ["unicode/utf8.first", "unicode/utf8.acceptRanges", "internal/bytealg.MaxLen"], apart := false, laid := [("unicode/utf8.acceptRanges", laid_unicode_utf8_acceptRanges), ("unicode/utf8.first", laid_unicode_utf8_first)] }
def WatchManySaid : Prop := watchManyRow.holds Tryd.pinned (OpenSpec.ofChange watchManySpec)

/-- ITS FALSE NEIGHBOUR: 'it returns false'. Refute it at one input. -/
def watchManyWrong : ChangeSpec := { name := "watchMany", fn := fun _ => fun
  | [d] => { results := [.lit (.bool false)], args := [d] }
  | _ => none }
def WatchManyWrongFalsely : Prop := watchManyRow.holds Tryd.pinned (OpenSpec.ofChange watchManyWrong)

/-- 'orchardlaw11.WatchActs': WHATEVER THE INPUT: true; the input reads as it did. -/
def watchActsSpec : ChangeSpec := { name := "watchActs", fn := fun _ => fun
  | [d] => { results := [.lit (.bool true)], args := [d] }
  | _ => none }
def watchActsRow : OpenClaim := { program := "ytmlnhiodabielaadoor", sum := "6dab12e11cd72457a4ca616cb15a3868ef56fc8173d29cdb54e623697f25f8ad", func := "orchard/orchardlaw11.WatchActs", spec := "watchActs", inPlace := ["internal/bytealg.CountString", "internal/bytealg.IndexByteString", "internal/bytealg.IndexString", "slices.overlaps[orchard/watch.Watch]"], unfollowed := true, recurses := true, named := ["unicode/utf8.first", "unicode/utf8.acceptRanges", "internal/bytealg.MaxLen"], apart := false, laid := [("unicode/utf8.acceptRanges", laid_unicode_utf8_acceptRanges), ("unicode/utf8.first", laid_unicode_utf8_first)] }
def WatchActsSaid : Prop := watchActsRow.holds Tryd.pinned (OpenSpec.ofChange watchActsSpec)

/-- ITS FALSE NEIGHBOUR: 'it returns false'. Refute it at one input. -/
def watchActsWrong : ChangeSpec := { name := "watchActs", fn := fun _ => fun
  | [d] => { results := [.lit (.bool false)], args := [d] }
  | _ => none }
def WatchActsWrongFalsely : Prop := watchActsRow.holds Tryd.pinned (OpenSpec.ofChange watchActsWrong)

/-- 'orchardlaw11.WatchReads': WHATEVER THE INPUT: true; the input reads as it did. -/
def watchReadsSpec : ChangeSpec := { name := "watchReads", fn := fun _ => fun
  | [d] => { results := [.lit (.bool true)], args := [d] }
  | _ => none }
def watchReadsRow : OpenClaim := { program := "ytmlnhiodabielaadoor", sum := "6dab12e11cd72457a4ca616cb15a3868ef56fc8173d29cdb54e623697f25f8ad", func := "orchard/orchardlaw11.WatchReads", spec := "watchReads", inPlace := ["internal/bytealg.CountString", "internal/bytealg.IndexByteString", "internal/bytealg.IndexString", "slices.overlaps[orchard/watch.Watch]"], unfollowed := true, recurses := true, named := ["unicode/utf8.first", "unicode/utf8.acceptRanges", "internal/bytealg.MaxLen"], apart := false, laid := [("unicode/utf8.acceptRanges", laid_unicode_utf8_acceptRanges), ("unicode/utf8.first", laid_unicode_utf8_first)] }
def WatchReadsSaid : Prop := watchReadsRow.holds Tryd.pinned (OpenSpec.ofChange watchReadsSpec)

/-- ITS FALSE NEIGHBOUR: 'it returns false'. Refute it at one input. -/
def watchReadsWrong : ChangeSpec := { name := "watchReads", fn := fun _ => fun
  | [d] => { results := [.lit (.bool false)], args := [d] }
  | _ => none }
def WatchReadsWrongFalsely : Prop := watchReadsRow.holds Tryd.pinned (OpenSpec.ofChange watchReadsWrong)

/- THE SECOND FORM. 'bulk': how many values and letters a reading holds, each counted each time it is reached (what is shared counts as often as it is met; a slice's spare places count too). A statement '..UptoSaid' is the law's where the arguments, and the package variables that the reading takes, are together of bulk at most 1048576: NARROWER than '..Said'. Prove '..Said' where nothing that the law and all that it calls make is longer than what came in: it says more and counts as full. Else prove '..UptoSaid'. A law counts once. -/
mutual
def uptoBulk {H : Type} : DataW H → Nat
  | .lit (.string bytes) => bytes.length + 1
  | .lit _ => 1
  | .nil => 1
  | .ptr d => uptoBulk d + 1
  | .slice elems spare => uptoBulkAll elems + uptoBulkAll spare + 1
  | .agg parts => uptoBulkAll parts + 1
  | .iface _ d => uptoBulk d + 1
  | .map entries => uptoBulkEntries entries + 1
  | .held _ => 1
def uptoBulkAll {H : Type} : List (DataW H) → Nat
  | [] => 0
  | d :: r => uptoBulk d + uptoBulkAll r
def uptoBulkEntries {H : Type} : List (Lit × DataW H) → Nat
  | [] => 0
  | x :: r => uptoBulkEntry x + uptoBulkEntries r
def uptoBulkEntry {H : Type} : Lit × DataW H → Nat
  | (.string bytes, d) => bytes.length + uptoBulk d + 1
  | (_, d) => uptoBulk d + 1
 end
def uptoSmall : (H : Type) → List (DataW H) → Bool := fun _ ds => decide (uptoBulkAll ds ≤ 1048576)
def OpenSpec.upto (s : _root_.Go.ChangeSpec) : _root_.Go.OpenSpec := { _root_.Go.OpenSpec.ofChange s with cond := some uptoSmall }

/-- 'orchardlaw11.WatchApart', WHERE WHAT IT READS IS OF BULK AT MOST 1048576: true; the input reads as it did. -/
def watchApartUptoRow : OpenClaim := { program := "ytmlnhiodabielaadoor", sum := "6dab12e11cd72457a4ca616cb15a3868ef56fc8173d29cdb54e623697f25f8ad", func := "orchard/orchardlaw11.WatchApart", spec := "watchApart", inPlace := ["internal/bytealg.CountString", "internal/bytealg.IndexByteString", "internal/bytealg.IndexString", "slices.overlaps[orchard/watch.Watch]"], unfollowed := true, recurses := true, named := ["unicode/utf8.first", "unicode/utf8.acceptRanges", "internal/bytealg.MaxLen"], apart := false, laid := [("unicode/utf8.acceptRanges", laid_unicode_utf8_acceptRanges), ("unicode/utf8.first", laid_unicode_utf8_first)], narrowed := true }
def WatchApartUptoSaid : Prop := watchApartUptoRow.holds Tryd.pinned (OpenSpec.upto watchApartSpec)

/-- 'orchardlaw11.WatchNumbers', WHERE WHAT IT READS IS OF BULK AT MOST 1048576: true; the input reads as it did. -/
def watchNumbersUptoRow : OpenClaim := { program := "ytmlnhiodabielaadoor", sum := "6dab12e11cd72457a4ca616cb15a3868ef56fc8173d29cdb54e623697f25f8ad", func := "orchard/orchardlaw11.WatchNumbers", spec := "watchNumbers", inPlace := ["internal/bytealg.CountString", "internal/bytealg.IndexByteString", "internal/bytealg.IndexString", "slices.overlaps[orchard/watch.Watch]"], unfollowed := true, recurses := true, named := ["unicode/utf8.first", "unicode/utf8.acceptRanges", "internal/bytealg.MaxLen"], apart := false, laid := [("unicode/utf8.acceptRanges", laid_unicode_utf8_acceptRanges), ("unicode/utf8.first", laid_unicode_utf8_first)], narrowed := true }
def WatchNumbersUptoSaid : Prop := watchNumbersUptoRow.holds Tryd.pinned (OpenSpec.upto watchNumbersSpec)

/-- 'orchardlaw11.WatchOnce', WHERE WHAT IT READS IS OF BULK AT MOST 1048576: true; the input reads as it did. -/
def watchOnceUptoRow : OpenClaim := { program := "ytmlnhiodabielaadoor", sum := "6dab12e11cd72457a4ca616cb15a3868ef56fc8173d29cdb54e623697f25f8ad", func := "orchard/orchardlaw11.WatchOnce", spec := "watchOnce", inPlace := ["internal/bytealg.CountString", "internal/bytealg.IndexByteString", "internal/bytealg.IndexString", "slices.overlaps[orchard/watch.Watch]"], unfollowed := true, recurses := true, named := ["unicode/utf8.first", "unicode/utf8.acceptRanges", "internal/bytealg.MaxLen"], apart := false, laid := [("unicode/utf8.acceptRanges", laid_unicode_utf8_acceptRanges), ("unicode/utf8.first", laid_unicode_utf8_first)], narrowed := true }
def WatchOnceUptoSaid : Prop := watchOnceUptoRow.holds Tryd.pinned (OpenSpec.upto watchOnceSpec)

/-- 'orchardlaw11.WatchMany', WHERE WHAT IT READS IS OF BULK AT MOST 1048576: true; the input reads as it did. -/
def watchManyUptoRow : OpenClaim := { program := "ytmlnhiodabielaadoor", sum := "6dab12e11cd72457a4ca616cb15a3868ef56fc8173d29cdb54e623697f25f8ad", func := "orchard/orchardlaw11.WatchMany", spec := "watchMany", inPlace := ["internal/bytealg.CountString", "internal/bytealg.IndexByteString", "internal/bytealg.IndexString", "slices.overlaps[orchard/watch.Watch]"], unfollowed := true, recurses := true, named := ["unicode/utf8.first", "unicode/utf8.acceptRanges", "internal/bytealg.MaxLen"], apart := false, laid := [("unicode/utf8.acceptRanges", laid_unicode_utf8_acceptRanges), ("unicode/utf8.first", laid_unicode_utf8_first)], narrowed := true }
def WatchManyUptoSaid : Prop := watchManyUptoRow.holds Tryd.pinned (OpenSpec.upto watchManySpec)

/-- 'orchardlaw11.WatchActs', WHERE WHAT IT READS IS OF BULK AT MOST 1048576: true; the input reads as it did. -/
def watchActsUptoRow : OpenClaim := { program := "ytmlnhiodabielaadoor", sum := "6dab12e11cd72457a4ca616cb15a3868ef56fc8173d29cdb54e623697f25f8ad", func := "orchard/orchardlaw11.WatchActs", spec := "watchActs", inPlace := ["internal/bytealg.CountString", "internal/bytealg.IndexByteString", "internal/bytealg.IndexString", "slices.overlaps[orchard/watch.Watch]"], unfollowed := true, recurses := true, named := ["unicode/utf8.first", "unicode/utf8.acceptRanges", "internal/bytealg.MaxLen"], apart := false, laid := [("unicode/utf8.acceptRanges", laid_unicode_utf8_acceptRanges), ("unicode/utf8.first", laid_unicode_utf8_first)], narrowed := true }
def WatchActsUptoSaid : Prop := watchActsUptoRow.holds Tryd.pinned (OpenSpec.upto watchActsSpec)

/-- 'orchardlaw11.WatchReads', WHERE WHAT IT READS IS OF BULK AT MOST 1048576: true; the input reads as it did. -/
def watchReadsUptoRow : OpenClaim := { program := "ytmlnhiodabielaadoor", sum := "6dab12e11cd72457a4ca616cb15a3868ef56fc8173d29cdb54e623697f25f8ad", func := "orchard/orchardlaw11.WatchReads", spec := "watchReads", inPlace := ["internal/bytealg.CountString", "internal/bytealg.IndexByteString", "internal/bytealg.IndexString", "slices.overlaps[orchard/watch.Watch]"], unfollowed := true, recurses := true, named := ["unicode/utf8.first", "unicode/utf8.acceptRanges", "internal/bytealg.MaxLen"], apart := false, laid := [("unicode/utf8.acceptRanges", laid_unicode_utf8_acceptRanges), ("unicode/utf8.first", laid_unicode_utf8_first)], narrowed := true }
def WatchReadsUptoSaid : Prop := watchReadsUptoRow.holds Tryd.pinned (OpenSpec.upto watchReadsSpec)

end Rows
end Go.Proofs.YtmlnhiodabielaaDoor
