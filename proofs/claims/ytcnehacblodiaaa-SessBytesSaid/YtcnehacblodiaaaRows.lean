/-
  No cell of these rows narrows 'for every input' (looked for: loops, veiled, ifaces, maps, wideKeys, modest, calm, conditions, laid).
  DERIVED. THE GIVEN ROWS OF THIS SEAT. 4 by the template 'for every input the law returns true; each argument reads behind the call as it read before'; 0 by the template 'total and deterministic' (their statements: YtcnehacblodiaaaTotals.lean).
  GIVEN WITH THE SEED: the statements are not yours to turn. If you find one false, say at which input.
  Laid BY PROGRAM, IN A SANDBOX (cutbox-rows.mjs): the forced cells as the released guide's own fill.sh prints them over the translation e0c8c8b8eb7a73f6… (all of the seat's roots in one cut). By AI agents, Wed Nov 11 2026. No macro, syntax, notation, axiom, sorry.
-/
import Derived.Test.YtcnehacblodiaaaChecked
import GoSem.Claim
import GoSem.ClaimJoined
import GoSem.ClaimMapViews
import Derived.JoinedTies
import Derived.KernelRfl
namespace Go.Proofs.Ytcnehacblodiaaa
/- THE CELL 'sum', in the pinned program and in every row, IS THE sha256 OF THE DUMP (.gsa) THAT YtcnehacblodiaaaProg.lean LOADS. Nothing in Lean hashes anything: it is a label: what it is worth is what the hold of that sum in a sandbox is worth. -/
noncomputable def Try.pinned : Pinned := { name := "ytcnehacblodiaaa", sum := "e0c8c8b8eb7a73f6af19c8c91dc466bef9ffd2b36399ceef4a20373b4fda9ea5", checked := Try.checked }
namespace Rows
def none {H : Type} : Left H := { results := [], args := [] }

/-- 'orchardlaw10.SessMany': WHATEVER THE INPUT: true; the input reads as it did. -/
def sessManySpec : ChangeSpec := { name := "sessMany", fn := fun _ => fun
  | [d1, d2] => { results := [.lit (.bool true)], args := [d1, d2] }
  | _ => none }
def sessManyRow : OpenClaim := { program := "ytcnehacblodiaaa", sum := "e0c8c8b8eb7a73f6af19c8c91dc466bef9ffd2b36399ceef4a20373b4fda9ea5", func := "orchard/orchardlaw10.SessMany", spec := "sessMany", unfollowed := true, recurses := true, apart := false }
def SessManySaid : Prop := sessManyRow.holds Try.pinned (OpenSpec.ofChange sessManySpec)

/-- ITS FALSE NEIGHBOUR: 'it returns false'. Refute it at one input. -/
def sessManyWrong : ChangeSpec := { name := "sessMany", fn := fun _ => fun
  | [d1, d2] => { results := [.lit (.bool false)], args := [d1, d2] }
  | _ => none }
def SessManyWrongFalsely : Prop := sessManyRow.holds Try.pinned (OpenSpec.ofChange sessManyWrong)

/-- 'orchardlaw10.SessActs': WHATEVER THE INPUT: true; the input reads as it did. -/
def sessActsSpec : ChangeSpec := { name := "sessActs", fn := fun _ => fun
  | [d] => { results := [.lit (.bool true)], args := [d] }
  | _ => none }
def sessActsRow : OpenClaim := { program := "ytcnehacblodiaaa", sum := "e0c8c8b8eb7a73f6af19c8c91dc466bef9ffd2b36399ceef4a20373b4fda9ea5", func := "orchard/orchardlaw10.SessActs", spec := "sessActs", inPlace := ["maps.clone"], unfollowed := true, recurses := true, apart := false }
def SessActsSaid : Prop := sessActsRow.holds Try.pinned (OpenSpec.ofChange sessActsSpec)

/-- ITS FALSE NEIGHBOUR: 'it returns false'. Refute it at one input. -/
def sessActsWrong : ChangeSpec := { name := "sessActs", fn := fun _ => fun
  | [d] => { results := [.lit (.bool false)], args := [d] }
  | _ => none }
def SessActsWrongFalsely : Prop := sessActsRow.holds Try.pinned (OpenSpec.ofChange sessActsWrong)

/-- 'orchardlaw10.SessReads': WHATEVER THE INPUT: true; the input reads as it did. -/
def sessReadsSpec : ChangeSpec := { name := "sessReads", fn := fun _ => fun
  | [d] => { results := [.lit (.bool true)], args := [d] }
  | _ => none }
def sessReadsRow : OpenClaim := { program := "ytcnehacblodiaaa", sum := "e0c8c8b8eb7a73f6af19c8c91dc466bef9ffd2b36399ceef4a20373b4fda9ea5", func := "orchard/orchardlaw10.SessReads", spec := "sessReads", unfollowed := true, recurses := true, apart := false }
def SessReadsSaid : Prop := sessReadsRow.holds Try.pinned (OpenSpec.ofChange sessReadsSpec)

/-- ITS FALSE NEIGHBOUR: 'it returns false'. Refute it at one input. -/
def sessReadsWrong : ChangeSpec := { name := "sessReads", fn := fun _ => fun
  | [d] => { results := [.lit (.bool false)], args := [d] }
  | _ => none }
def SessReadsWrongFalsely : Prop := sessReadsRow.holds Try.pinned (OpenSpec.ofChange sessReadsWrong)

/-- 'orchardlaw10.SessBytes': WHATEVER THE INPUT: true; the input reads as it did. -/
def sessBytesSpec : ChangeSpec := { name := "sessBytes", fn := fun _ => fun
  | [d1, d2, d3] => { results := [.lit (.bool true)], args := [d1, d2, d3] }
  | _ => none }
def sessBytesRow : OpenClaim := { program := "ytcnehacblodiaaa", sum := "e0c8c8b8eb7a73f6af19c8c91dc466bef9ffd2b36399ceef4a20373b4fda9ea5", func := "orchard/orchardlaw10.SessBytes", spec := "sessBytes", inPlace := ["maps.clone"], unfollowed := true, recurses := true, apart := false }
def SessBytesSaid : Prop := sessBytesRow.holds Try.pinned (OpenSpec.ofChange sessBytesSpec)

/-- ITS FALSE NEIGHBOUR: 'it returns false'. Refute it at one input. -/
def sessBytesWrong : ChangeSpec := { name := "sessBytes", fn := fun _ => fun
  | [d1, d2, d3] => { results := [.lit (.bool false)], args := [d1, d2, d3] }
  | _ => none }
def SessBytesWrongFalsely : Prop := sessBytesRow.holds Try.pinned (OpenSpec.ofChange sessBytesWrong)

/- THE SECOND FORM. 'bulk': how many values and letters a reading holds, each counted each time it is reached (what is shared counts as often as it is met; a slice's spare places count too). A statement '..UptoSaid' is the law's where the arguments, and the package variables that the reading takes, are together of bulk at most 1048576: NARROWER than '..Said'. Prove '..Said' where nothing that the law and all that it calls make is longer than what came in: it says more and counts as full. Else prove '..UptoSaid'. A law counts once. -/
mutual
def uptoBulk {H : Type} : DataW H → Nat
  | .lit (.string bytes) => bytes.length + 1
  | .lit _ => 1
  | .nil => 1
  | .ptr d => uptoBulk d + 1
  | .slice elems spare => uptoBulkAll elems + uptoBulkAll spare + 1
  | .agg parts => uptoBulkAll parts + 1
  | .iface _ d => uptoBulk d + 1
  | .map entries => uptoBulkEntries entries + 1
  | .held _ => 1
def uptoBulkAll {H : Type} : List (DataW H) → Nat
  | [] => 0
  | d :: r => uptoBulk d + uptoBulkAll r
def uptoBulkEntries {H : Type} : List (Lit × DataW H) → Nat
  | [] => 0
  | x :: r => uptoBulkEntry x + uptoBulkEntries r
def uptoBulkEntry {H : Type} : Lit × DataW H → Nat
  | (.string bytes, d) => bytes.length + uptoBulk d + 1
  | (_, d) => uptoBulk d + 1
 end
def uptoSmall : (H : Type) → List (DataW H) → Bool := fun _ ds => decide (uptoBulkAll ds ≤ 1048576)
def OpenSpec.upto (s : _root_.Go.ChangeSpec) : _root_.Go.OpenSpec := { _root_.Go.OpenSpec.ofChange s with cond := some uptoSmall }

/-- 'orchardlaw10.SessMany', WHERE WHAT IT READS IS OF BULK AT MOST 1048576: true; the input reads as it did. -/
def sessManyUptoRow : OpenClaim := { program := "ytcnehacblodiaaa", sum := "e0c8c8b8eb7a73f6af19c8c91dc466bef9ffd2b36399ceef4a20373b4fda9ea5", func := "orchard/orchardlaw10.SessMany", spec := "sessMany", unfollowed := true, recurses := true, apart := false, narrowed := true }
def SessManyUptoSaid : Prop := sessManyUptoRow.holds Try.pinned (OpenSpec.upto sessManySpec)

/-- 'orchardlaw10.SessActs', WHERE WHAT IT READS IS OF BULK AT MOST 1048576: true; the input reads as it did. -/
def sessActsUptoRow : OpenClaim := { program := "ytcnehacblodiaaa", sum := "e0c8c8b8eb7a73f6af19c8c91dc466bef9ffd2b36399ceef4a20373b4fda9ea5", func := "orchard/orchardlaw10.SessActs", spec := "sessActs", inPlace := ["maps.clone"], unfollowed := true, recurses := true, apart := false, narrowed := true }
def SessActsUptoSaid : Prop := sessActsUptoRow.holds Try.pinned (OpenSpec.upto sessActsSpec)

/-- 'orchardlaw10.SessReads', WHERE WHAT IT READS IS OF BULK AT MOST 1048576: true; the input reads as it did. -/
def sessReadsUptoRow : OpenClaim := { program := "ytcnehacblodiaaa", sum := "e0c8c8b8eb7a73f6af19c8c91dc466bef9ffd2b36399ceef4a20373b4fda9ea5", func := "orchard/orchardlaw10.SessReads", spec := "sessReads", unfollowed := true, recurses := true, apart := false, narrowed := true }
def SessReadsUptoSaid : Prop := sessReadsUptoRow.holds Try.pinned (OpenSpec.upto sessReadsSpec)

/-- 'orchardlaw10.SessBytes', WHERE WHAT IT READS IS OF BULK AT MOST 1048576: true; the input reads as it did. -/
def sessBytesUptoRow : OpenClaim := { program := "ytcnehacblodiaaa", sum := "e0c8c8b8eb7a73f6af19c8c91dc466bef9ffd2b36399ceef4a20373b4fda9ea5", func := "orchard/orchardlaw10.SessBytes", spec := "sessBytes", inPlace := ["maps.clone"], unfollowed := true, recurses := true, apart := false, narrowed := true }
def SessBytesUptoSaid : Prop := sessBytesUptoRow.holds Try.pinned (OpenSpec.upto sessBytesSpec)

end Rows
end Go.Proofs.Ytcnehacblodiaaa
