/-
  No cell of these rows narrows 'for every input' (looked for: loops, veiled, ifaces, maps, wideKeys, modest, calm, conditions, laid).
  DERIVED. THE GIVEN ROWS OF THIS SEAT. 11 by the template 'for every input the law returns true; each argument reads behind the call as it read before'; 0 by the template 'total and deterministic' (their statements: YtinpnnfeggjbeaaTotals.lean).
  GIVEN WITH THE SEED: the statements are not yours to turn. If you find one false, say at which input.
  Laid BY PROGRAM, IN A SANDBOX (cutbox-rows.mjs): the forced cells as the released guide's own fill.sh prints them over the translation 6bc9f31f353fa85c… (all of the seat's roots in one cut). By AI agents, Wed Nov 11 2026. No macro, syntax, notation, axiom, sorry.
-/
import Derived.Test.YtinpnnfeggjbeaaChecked
import GoSem.Claim
import GoSem.ClaimJoined
import GoSem.ClaimMapViews
import Derived.JoinedTies
import Derived.KernelRfl
namespace Go.Proofs.Ytinpnnfeggjbeaa
/- THE CELL 'sum', in the pinned program and in every row, IS THE sha256 OF THE DUMP (.gsa) THAT YtinpnnfeggjbeaaProg.lean LOADS. Nothing in Lean hashes anything: it is a label: what it is worth is what the hold of that sum in a sandbox is worth. -/
noncomputable def Try.pinned : Pinned := { name := "ytinpnnfeggjbeaa", sum := "6bc9f31f353fa85c14648cdffe34fd6e0574e356eccd22cbd553911f9b342226", checked := Try.checked }
namespace Rows
def none {H : Type} : Left H := { results := [], args := [] }

/-- 'orchardlaw10.SessOnce': WHATEVER THE INPUT: true; the input reads as it did. -/
def sessOnceSpec : ChangeSpec := { name := "sessOnce", fn := fun _ => fun
  | [d1, d2, d3] => { results := [.lit (.bool true)], args := [d1, d2, d3] }
  | _ => none }
def sessOnceRow : OpenClaim := { program := "ytinpnnfeggjbeaa", sum := "6bc9f31f353fa85c14648cdffe34fd6e0574e356eccd22cbd553911f9b342226", func := "orchard/orchardlaw10.SessOnce", spec := "sessOnce", apart := false }
def SessOnceSaid : Prop := sessOnceRow.holds Try.pinned (OpenSpec.ofChange sessOnceSpec)

/-- ITS FALSE NEIGHBOUR: 'it returns false'. Refute it at one input. -/
def sessOnceWrong : ChangeSpec := { name := "sessOnce", fn := fun _ => fun
  | [d1, d2, d3] => { results := [.lit (.bool false)], args := [d1, d2, d3] }
  | _ => none }
def SessOnceWrongFalsely : Prop := sessOnceRow.holds Try.pinned (OpenSpec.ofChange sessOnceWrong)

/-- 'orchardlaw10.SessApart': WHATEVER THE INPUT: true; the input reads as it did. -/
def sessApartSpec : ChangeSpec := { name := "sessApart", fn := fun _ => fun
  | [d1, d2] => { results := [.lit (.bool true)], args := [d1, d2] }
  | _ => none }
def sessApartRow : OpenClaim := { program := "ytinpnnfeggjbeaa", sum := "6bc9f31f353fa85c14648cdffe34fd6e0574e356eccd22cbd553911f9b342226", func := "orchard/orchardlaw10.SessApart", spec := "sessApart", apart := false }
def SessApartSaid : Prop := sessApartRow.holds Try.pinned (OpenSpec.ofChange sessApartSpec)

/-- ITS FALSE NEIGHBOUR: 'it returns false'. Refute it at one input. -/
def sessApartWrong : ChangeSpec := { name := "sessApart", fn := fun _ => fun
  | [d1, d2] => { results := [.lit (.bool false)], args := [d1, d2] }
  | _ => none }
def SessApartWrongFalsely : Prop := sessApartRow.holds Try.pinned (OpenSpec.ofChange sessApartWrong)

/-- 'orchardlaw12.OpReads': WHATEVER THE INPUT: true; the input reads as it did. -/
def opReadsSpec : ChangeSpec := { name := "opReads", fn := fun _ => fun
  | [d] => { results := [.lit (.bool true)], args := [d] }
  | _ => none }
def opReadsRow : OpenClaim := { program := "ytinpnnfeggjbeaa", sum := "6bc9f31f353fa85c14648cdffe34fd6e0574e356eccd22cbd553911f9b342226", func := "orchard/orchardlaw12.OpReads", spec := "opReads", unfollowed := true, recurses := true, apart := false }
def OpReadsSaid : Prop := opReadsRow.holds Try.pinned (OpenSpec.ofChange opReadsSpec)

/-- ITS FALSE NEIGHBOUR: 'it returns false'. Refute it at one input. -/
def opReadsWrong : ChangeSpec := { name := "opReads", fn := fun _ => fun
  | [d] => { results := [.lit (.bool false)], args := [d] }
  | _ => none }
def OpReadsWrongFalsely : Prop := opReadsRow.holds Try.pinned (OpenSpec.ofChange opReadsWrong)

/-- 'orchardlaw12.OpApart': WHATEVER THE INPUT: true; the input reads as it did. -/
def opApartSpec : ChangeSpec := { name := "opApart", fn := fun _ => fun
  | [d1, d2] => { results := [.lit (.bool true)], args := [d1, d2] }
  | _ => none }
def opApartRow : OpenClaim := { program := "ytinpnnfeggjbeaa", sum := "6bc9f31f353fa85c14648cdffe34fd6e0574e356eccd22cbd553911f9b342226", func := "orchard/orchardlaw12.OpApart", spec := "opApart", unfollowed := true, recurses := true, apart := false }
def OpApartSaid : Prop := opApartRow.holds Try.pinned (OpenSpec.ofChange opApartSpec)

/-- ITS FALSE NEIGHBOUR: 'it returns false'. Refute it at one input. -/
def opApartWrong : ChangeSpec := { name := "opApart", fn := fun _ => fun
  | [d1, d2] => { results := [.lit (.bool false)], args := [d1, d2] }
  | _ => none }
def OpApartWrongFalsely : Prop := opApartRow.holds Try.pinned (OpenSpec.ofChange opApartWrong)

/-- 'orchardlaw12.OpLong': WHATEVER THE INPUT: true; the input reads as it did. -/
def opLongSpec : ChangeSpec := { name := "opLong", fn := fun _ => fun
  | [d1, d2] => { results := [.lit (.bool true)], args := [d1, d2] }
  | _ => none }
def opLongRow : OpenClaim := { program := "ytinpnnfeggjbeaa", sum := "6bc9f31f353fa85c14648cdffe34fd6e0574e356eccd22cbd553911f9b342226", func := "orchard/orchardlaw12.OpLong", spec := "opLong", unfollowed := true, recurses := true, apart := false }
def OpLongSaid : Prop := opLongRow.holds Try.pinned (OpenSpec.ofChange opLongSpec)

/-- ITS FALSE NEIGHBOUR: 'it returns false'. Refute it at one input. -/
def opLongWrong : ChangeSpec := { name := "opLong", fn := fun _ => fun
  | [d1, d2] => { results := [.lit (.bool false)], args := [d1, d2] }
  | _ => none }
def OpLongWrongFalsely : Prop := opLongRow.holds Try.pinned (OpenSpec.ofChange opLongWrong)

/-- 'orchardlaw12.OpKinds': WHATEVER THE INPUT: true; the input reads as it did. -/
def opKindsSpec : ChangeSpec := { name := "opKinds", fn := fun _ => fun
  | [d1, d2] => { results := [.lit (.bool true)], args := [d1, d2] }
  | _ => none }
def opKindsRow : OpenClaim := { program := "ytinpnnfeggjbeaa", sum := "6bc9f31f353fa85c14648cdffe34fd6e0574e356eccd22cbd553911f9b342226", func := "orchard/orchardlaw12.OpKinds", spec := "opKinds", unfollowed := true, recurses := true, apart := false }
def OpKindsSaid : Prop := opKindsRow.holds Try.pinned (OpenSpec.ofChange opKindsSpec)

/-- ITS FALSE NEIGHBOUR: 'it returns false'. Refute it at one input. -/
def opKindsWrong : ChangeSpec := { name := "opKinds", fn := fun _ => fun
  | [d1, d2] => { results := [.lit (.bool false)], args := [d1, d2] }
  | _ => none }
def OpKindsWrongFalsely : Prop := opKindsRow.holds Try.pinned (OpenSpec.ofChange opKindsWrong)

/-- 'orchardlaw12.OpAnswers': WHATEVER THE INPUT: true; the input reads as it did. -/
def opAnswersSpec : ChangeSpec := { name := "opAnswers", fn := fun _ => fun
  | [d1, d2] => { results := [.lit (.bool true)], args := [d1, d2] }
  | _ => none }
def opAnswersRow : OpenClaim := { program := "ytinpnnfeggjbeaa", sum := "6bc9f31f353fa85c14648cdffe34fd6e0574e356eccd22cbd553911f9b342226", func := "orchard/orchardlaw12.OpAnswers", spec := "opAnswers", unfollowed := true, recurses := true, apart := false }
def OpAnswersSaid : Prop := opAnswersRow.holds Try.pinned (OpenSpec.ofChange opAnswersSpec)

/-- ITS FALSE NEIGHBOUR: 'it returns false'. Refute it at one input. -/
def opAnswersWrong : ChangeSpec := { name := "opAnswers", fn := fun _ => fun
  | [d1, d2] => { results := [.lit (.bool false)], args := [d1, d2] }
  | _ => none }
def OpAnswersWrongFalsely : Prop := opAnswersRow.holds Try.pinned (OpenSpec.ofChange opAnswersWrong)

/-- 'orchardlaw10.SessMany': WHATEVER THE INPUT: true; the input reads as it did. -/
def sessManySpec : ChangeSpec := { name := "sessMany", fn := fun _ => fun
  | [d1, d2] => { results := [.lit (.bool true)], args := [d1, d2] }
  | _ => none }
def sessManyRow : OpenClaim := { program := "ytinpnnfeggjbeaa", sum := "6bc9f31f353fa85c14648cdffe34fd6e0574e356eccd22cbd553911f9b342226", func := "orchard/orchardlaw10.SessMany", spec := "sessMany", unfollowed := true, recurses := true, apart := false }
def SessManySaid : Prop := sessManyRow.holds Try.pinned (OpenSpec.ofChange sessManySpec)

/-- ITS FALSE NEIGHBOUR: 'it returns false'. Refute it at one input. -/
def sessManyWrong : ChangeSpec := { name := "sessMany", fn := fun _ => fun
  | [d1, d2] => { results := [.lit (.bool false)], args := [d1, d2] }
  | _ => none }
def SessManyWrongFalsely : Prop := sessManyRow.holds Try.pinned (OpenSpec.ofChange sessManyWrong)

/-- 'orchardlaw10.SessActs': WHATEVER THE INPUT: true; the input reads as it did. -/
def sessActsSpec : ChangeSpec := { name := "sessActs", fn := fun _ => fun
  | [d] => { results := [.lit (.bool true)], args := [d] }
  | _ => none }
def sessActsRow : OpenClaim := { program := "ytinpnnfeggjbeaa", sum := "6bc9f31f353fa85c14648cdffe34fd6e0574e356eccd22cbd553911f9b342226", func := "orchard/orchardlaw10.SessActs", spec := "sessActs", inPlace := ["maps.clone"], unfollowed := true, recurses := true, apart := false }
def SessActsSaid : Prop := sessActsRow.holds Try.pinned (OpenSpec.ofChange sessActsSpec)

/-- ITS FALSE NEIGHBOUR: 'it returns false'. Refute it at one input. -/
def sessActsWrong : ChangeSpec := { name := "sessActs", fn := fun _ => fun
  | [d] => { results := [.lit (.bool false)], args := [d] }
  | _ => none }
def SessActsWrongFalsely : Prop := sessActsRow.holds Try.pinned (OpenSpec.ofChange sessActsWrong)

/-- 'orchardlaw10.SessReads': WHATEVER THE INPUT: true; the input reads as it did. -/
def sessReadsSpec : ChangeSpec := { name := "sessReads", fn := fun _ => fun
  | [d] => { results := [.lit (.bool true)], args := [d] }
  | _ => none }
def sessReadsRow : OpenClaim := { program := "ytinpnnfeggjbeaa", sum := "6bc9f31f353fa85c14648cdffe34fd6e0574e356eccd22cbd553911f9b342226", func := "orchard/orchardlaw10.SessReads", spec := "sessReads", unfollowed := true, recurses := true, apart := false }
def SessReadsSaid : Prop := sessReadsRow.holds Try.pinned (OpenSpec.ofChange sessReadsSpec)

/-- ITS FALSE NEIGHBOUR: 'it returns false'. Refute it at one input. -/
def sessReadsWrong : ChangeSpec := { name := "sessReads", fn := fun _ => fun
  | [d] => { results := [.lit (.bool false)], args := [d] }
  | _ => none }
def SessReadsWrongFalsely : Prop := sessReadsRow.holds Try.pinned (OpenSpec.ofChange sessReadsWrong)

/-- 'orchardlaw10.SessBytes': WHATEVER THE INPUT: true; the input reads as it did. -/
def sessBytesSpec : ChangeSpec := { name := "sessBytes", fn := fun _ => fun
  | [d1, d2, d3] => { results := [.lit (.bool true)], args := [d1, d2, d3] }
  | _ => none }
def sessBytesRow : OpenClaim := { program := "ytinpnnfeggjbeaa", sum := "6bc9f31f353fa85c14648cdffe34fd6e0574e356eccd22cbd553911f9b342226", func := "orchard/orchardlaw10.SessBytes", spec := "sessBytes", inPlace := ["maps.clone"], unfollowed := true, recurses := true, apart := false }
def SessBytesSaid : Prop := sessBytesRow.holds Try.pinned (OpenSpec.ofChange sessBytesSpec)

/-- ITS FALSE NEIGHBOUR: 'it returns false'. Refute it at one input. -/
def sessBytesWrong : ChangeSpec := { name := "sessBytes", fn := fun _ => fun
  | [d1, d2, d3] => { results := [.lit (.bool false)], args := [d1, d2, d3] }
  | _ => none }
def SessBytesWrongFalsely : Prop := sessBytesRow.holds Try.pinned (OpenSpec.ofChange sessBytesWrong)

/- THE SECOND FORM. 'bulk': how many values and letters a reading holds, each counted each time it is reached (what is shared counts as often as it is met; a slice's spare places count too). A statement '..UptoSaid' is the law's where the arguments, and the package variables that the reading takes, are together of bulk at most 1048576: NARROWER than '..Said'. Prove '..Said' where nothing that the law and all that it calls make is longer than what came in: it says more and counts as full. Else prove '..UptoSaid'. A law counts once. -/
mutual
def uptoBulk {H : Type} : DataW H → Nat
  | .lit (.string bytes) => bytes.length + 1
  | .lit _ => 1
  | .nil => 1
  | .ptr d => uptoBulk d + 1
  | .slice elems spare => uptoBulkAll elems + uptoBulkAll spare + 1
  | .agg parts => uptoBulkAll parts + 1
  | .iface _ d => uptoBulk d + 1
  | .map entries => uptoBulkEntries entries + 1
  | .held _ => 1
def uptoBulkAll {H : Type} : List (DataW H) → Nat
  | [] => 0
  | d :: r => uptoBulk d + uptoBulkAll r
def uptoBulkEntries {H : Type} : List (Lit × DataW H) → Nat
  | [] => 0
  | x :: r => uptoBulkEntry x + uptoBulkEntries r
def uptoBulkEntry {H : Type} : Lit × DataW H → Nat
  | (.string bytes, d) => bytes.length + uptoBulk d + 1
  | (_, d) => uptoBulk d + 1
 end
def uptoSmall : (H : Type) → List (DataW H) → Bool := fun _ ds => decide (uptoBulkAll ds ≤ 1048576)
def OpenSpec.upto (s : _root_.Go.ChangeSpec) : _root_.Go.OpenSpec := { _root_.Go.OpenSpec.ofChange s with cond := some uptoSmall }

/-- 'orchardlaw10.SessOnce', WHERE WHAT IT READS IS OF BULK AT MOST 1048576: true; the input reads as it did. -/
def sessOnceUptoRow : OpenClaim := { program := "ytinpnnfeggjbeaa", sum := "6bc9f31f353fa85c14648cdffe34fd6e0574e356eccd22cbd553911f9b342226", func := "orchard/orchardlaw10.SessOnce", spec := "sessOnce", apart := false, narrowed := true }
def SessOnceUptoSaid : Prop := sessOnceUptoRow.holds Try.pinned (OpenSpec.upto sessOnceSpec)

/-- 'orchardlaw10.SessApart', WHERE WHAT IT READS IS OF BULK AT MOST 1048576: true; the input reads as it did. -/
def sessApartUptoRow : OpenClaim := { program := "ytinpnnfeggjbeaa", sum := "6bc9f31f353fa85c14648cdffe34fd6e0574e356eccd22cbd553911f9b342226", func := "orchard/orchardlaw10.SessApart", spec := "sessApart", apart := false, narrowed := true }
def SessApartUptoSaid : Prop := sessApartUptoRow.holds Try.pinned (OpenSpec.upto sessApartSpec)

/-- 'orchardlaw12.OpReads', WHERE WHAT IT READS IS OF BULK AT MOST 1048576: true; the input reads as it did. -/
def opReadsUptoRow : OpenClaim := { program := "ytinpnnfeggjbeaa", sum := "6bc9f31f353fa85c14648cdffe34fd6e0574e356eccd22cbd553911f9b342226", func := "orchard/orchardlaw12.OpReads", spec := "opReads", unfollowed := true, recurses := true, apart := false, narrowed := true }
def OpReadsUptoSaid : Prop := opReadsUptoRow.holds Try.pinned (OpenSpec.upto opReadsSpec)

/-- 'orchardlaw12.OpApart', WHERE WHAT IT READS IS OF BULK AT MOST 1048576: true; the input reads as it did. -/
def opApartUptoRow : OpenClaim := { program := "ytinpnnfeggjbeaa", sum := "6bc9f31f353fa85c14648cdffe34fd6e0574e356eccd22cbd553911f9b342226", func := "orchard/orchardlaw12.OpApart", spec := "opApart", unfollowed := true, recurses := true, apart := false, narrowed := true }
def OpApartUptoSaid : Prop := opApartUptoRow.holds Try.pinned (OpenSpec.upto opApartSpec)

/-- 'orchardlaw12.OpLong', WHERE WHAT IT READS IS OF BULK AT MOST 1048576: true; the input reads as it did. -/
def opLongUptoRow : OpenClaim := { program := "ytinpnnfeggjbeaa", sum := "6bc9f31f353fa85c14648cdffe34fd6e0574e356eccd22cbd553911f9b342226", func := "orchard/orchardlaw12.OpLong", spec := "opLong", unfollowed := true, recurses := true, apart := false, narrowed := true }
def OpLongUptoSaid : Prop := opLongUptoRow.holds Try.pinned (OpenSpec.upto opLongSpec)

/-- 'orchardlaw12.OpKinds', WHERE WHAT IT READS IS OF BULK AT MOST 1048576: true; the input reads as it did. -/
def opKindsUptoRow : OpenClaim := { program := "ytinpnnfeggjbeaa", sum := "6bc9f31f353fa85c14648cdffe34fd6e0574e356eccd22cbd553911f9b342226", func := "orchard/orchardlaw12.OpKinds", spec := "opKinds", unfollowed := true, recurses := true, apart := false, narrowed := true }
def OpKindsUptoSaid : Prop := opKindsUptoRow.holds Try.pinned (OpenSpec.upto opKindsSpec)

/-- 'orchardlaw12.OpAnswers', WHERE WHAT IT READS IS OF BULK AT MOST 1048576: true; the input reads as it did. -/
def opAnswersUptoRow : OpenClaim := { program := "ytinpnnfeggjbeaa", sum := "6bc9f31f353fa85c14648cdffe34fd6e0574e356eccd22cbd553911f9b342226", func := "orchard/orchardlaw12.OpAnswers", spec := "opAnswers", unfollowed := true, recurses := true, apart := false, narrowed := true }
def OpAnswersUptoSaid : Prop := opAnswersUptoRow.holds Try.pinned (OpenSpec.upto opAnswersSpec)

/-- 'orchardlaw10.SessMany', WHERE WHAT IT READS IS OF BULK AT MOST 1048576: true; the input reads as it did. -/
def sessManyUptoRow : OpenClaim := { program := "ytinpnnfeggjbeaa", sum := "6bc9f31f353fa85c14648cdffe34fd6e0574e356eccd22cbd553911f9b342226", func := "orchard/orchardlaw10.SessMany", spec := "sessMany", unfollowed := true, recurses := true, apart := false, narrowed := true }
def SessManyUptoSaid : Prop := sessManyUptoRow.holds Try.pinned (OpenSpec.upto sessManySpec)

/-- 'orchardlaw10.SessActs', WHERE WHAT IT READS IS OF BULK AT MOST 1048576: true; the input reads as it did. -/
def sessActsUptoRow : OpenClaim := { program := "ytinpnnfeggjbeaa", sum := "6bc9f31f353fa85c14648cdffe34fd6e0574e356eccd22cbd553911f9b342226", func := "orchard/orchardlaw10.SessActs", spec := "sessActs", inPlace := ["maps.clone"], unfollowed := true, recurses := true, apart := false, narrowed := true }
def SessActsUptoSaid : Prop := sessActsUptoRow.holds Try.pinned (OpenSpec.upto sessActsSpec)

/-- 'orchardlaw10.SessReads', WHERE WHAT IT READS IS OF BULK AT MOST 1048576: true; the input reads as it did. -/
def sessReadsUptoRow : OpenClaim := { program := "ytinpnnfeggjbeaa", sum := "6bc9f31f353fa85c14648cdffe34fd6e0574e356eccd22cbd553911f9b342226", func := "orchard/orchardlaw10.SessReads", spec := "sessReads", unfollowed := true, recurses := true, apart := false, narrowed := true }
def SessReadsUptoSaid : Prop := sessReadsUptoRow.holds Try.pinned (OpenSpec.upto sessReadsSpec)

/-- 'orchardlaw10.SessBytes', WHERE WHAT IT READS IS OF BULK AT MOST 1048576: true; the input reads as it did. -/
def sessBytesUptoRow : OpenClaim := { program := "ytinpnnfeggjbeaa", sum := "6bc9f31f353fa85c14648cdffe34fd6e0574e356eccd22cbd553911f9b342226", func := "orchard/orchardlaw10.SessBytes", spec := "sessBytes", inPlace := ["maps.clone"], unfollowed := true, recurses := true, apart := false, narrowed := true }
def SessBytesUptoSaid : Prop := sessBytesUptoRow.holds Try.pinned (OpenSpec.upto sessBytesSpec)

end Rows
end Go.Proofs.Ytinpnnfeggjbeaa
