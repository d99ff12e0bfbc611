/- The plain form of the state with sorts that the kernel can carry out. No condition. -/
import Derived.Test.YthgiamofndhehaaGreatDoorSta
set_option linter.unusedVariables false
set_option linter.unusedSimpArgs false
namespace Go.Proofs.YthgiamofndhehaaGreatDoor
open Go.RowKit

def insK {α : Type} (le : α → α → Bool) (x : α) : List α → List α
  | [] => [x]
  | y :: r => if le x y = true then x :: y :: r else y :: insK le x r
def sortK {α : Type} (le : α → α → Bool) : List α → List α
  | [] => []
  | x :: r => insK le x (sortK le r)
abbrev leI (x y : Int) : Bool := decide (x ≤ y)
abbrev leB (x y : List UInt8) : Bool := decide (x ≤ y)
def ownK (T : TreeT) (o : Int) : List (List UInt8) := (sortK leB (keys T)).filter fun s => decide (((mget T s).getD zN).owner = o ∧ o ≠ 0)
def endK (s : StT) (id when_ : Int) : StT :=
  match endL when_ (ownK s.tree id).reverse s.tree s.book with
  | (T, B) => ⟨T, (closeF s.tab id).2, dropF B id, s.at_⟩
def crowdK (s : StT) : Option Int := (sortK leI (keys s.tab)).find? fun id => overF s.book id
def crowdLK (when_ : Int) : Nat → StT → StT
  | 0, s => s
  | n + 1, s => match crowdK s with
    | none => s
    | some id => crowdLK when_ n (endK s id when_)
def cmdK (s : StT) (c : CmdT) (when_ : Int) : ResT × StT :=
  if c.kind = 0 then (⟨0, 0, [], when_⟩, s)
  else if c.kind = 1 then match openF s.tab c.session with
    | (e, m) => (⟨e, 0, [], when_⟩, ⟨s.tree, m, s.book, s.at_⟩)
  else match seenF s.tab c.session c.req with
    | (t, again, e) => if e ≠ 0 then (⟨e, 0, [], when_⟩, s)
      else if again = true then ((ansF t).1, s)
      else if c.kind = 2 then (⟨0, 0, [], when_⟩, endK ⟨s.tree, s.tab, notedF s.book c.session c.noted, s.at_⟩ c.session when_)
      else match doF ⟨s.tree, s.tab, notedF s.book c.session c.noted, s.at_⟩ c when_ with
        | (r, s2) => (r, ⟨s2.tree, (keepF s2.tab c.session c.req (resB r)).2, s2.book, s2.at_⟩)
def applyK (s : StT) (c : CmdT) : ResT × StT :=
  match cmdK ⟨s.tree, s.tab, s.book, s.at_ + 1⟩ c (s.at_ + 1) with
  | (r, s2) => (r, crowdLK (s.at_ + 1) s2.tab.length s2)
end Go.Proofs.YthgiamofndhehaaGreatDoor
