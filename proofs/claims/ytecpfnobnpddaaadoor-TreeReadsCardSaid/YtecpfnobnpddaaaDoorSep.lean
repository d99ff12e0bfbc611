/- Memory in pieces, over any program: which blocks are a call's own, what they hold, and that the rest stays. No condition. -/
import Derived.Test.YtecpfnobnpddaaaDoorBase
import Derived.Test.YtecpfnobnpddaaaDoorMaps
import Derived.Test.YtecpfnobnpddaaaDoorStructs
import Derived.Test.YtecpfnobnpddaaaDoorBlk
import Derived.Deep.RegionLaw
import Derived.Deep.RegionHeld3
set_option linter.unusedVariables false
set_option linter.unusedSimpArgs false
set_option linter.unusedSectionVars false
namespace Go.Proofs.YtecpfnobnpddaaaDoor
open Go.RowKit

/-- a piece of memory: blocks, what they hold, and whether they are one's own to change -/
abbrev Hp := Nat → Option (Obj × Bool)
abbrev Asn := Hp → Prop
def compat (a b : Option (Obj × Bool)) : Prop := a = none ∨ b = none ∨ ∃ o, a = some (o, false) ∧ b = some (o, false)
def hjoin (h1 h2 : Hp) : Hp := fun k => (h1 k).or (h2 k)
def star (A B : Asn) : Asn := fun h => ∃ h1 h2, (∀ k, compat (h1 k) (h2 k)) ∧ h = hjoin h1 h2 ∧ A h1 ∧ B h2
def stars : List Asn → Asn
  | [] => fun _ => True
  | A :: L => star A (stars L)
def hnil : Hp := fun _ => none
def hone (b : Nat) (o : Obj) (m : Bool) : Hp := fun k => if k = b then some (o, m) else none
/-- a block of one's own -/
def own (b : Nat) (Φ : Obj → Prop) : Asn := fun h => ∃ o, Φ o ∧ h = hone b o true
/-- a block that is read alone -/
def ro (b : Nat) (o : Obj) : Asn := fun h => h = hone b o false
/-- all that was there -/
def oldA (W : World) : Asn := fun h => h = fun k => (W.heap[k]?).map fun o => (o, false)
def pureA (p : Prop) : Asn := fun h => p ∧ h = hnil
def exA {α : Type} (A : α → Asn) : Asn := fun h => ∃ x, A x h

theorem compat_perm {a b c : Option (Obj × Bool)} (h1 : compat a (b.or c)) (h2 : compat b c) : compat b (a.or c) ∧ compat a c ∧ a.or (b.or c) = b.or (a.or c) := by
  unfold compat at *
  cases a <;> cases b <;> cases c <;> simp_all <;> (try obtain ⟨o, rfl, rfl⟩ := h1) <;> (try obtain ⟨o', h3, rfl⟩ := h2) <;> simp_all
theorem compat_symm {a b : Option (Obj × Bool)} (h : compat a b) : compat b a := by
  unfold compat at *
  rcases h with h | h | ⟨o, h1, h2⟩
  · exact .inr (.inl h)
  · exact .inl h
  · exact .inr (.inr ⟨o, h2, h1⟩)
theorem compat_assoc {a b c : Option (Obj × Bool)} (h1 : compat (a.or b) c) (h2 : compat a b) : compat a (b.or c) ∧ compat b c ∧ (a.or b).or c = a.or (b.or c) := by
  unfold compat at *
  cases a <;> cases b <;> cases c <;> simp_all <;> (try obtain ⟨o, rfl, rfl⟩ := h1) <;> (try obtain ⟨o', h3, rfl⟩ := h2) <;> simp_all
theorem compat_assoc' {a b c : Option (Obj × Bool)} (h1 : compat a (b.or c)) (h2 : compat b c) : compat (a.or b) c ∧ compat a b ∧ (a.or b).or c = a.or (b.or c) := by
  unfold compat at *
  cases a <;> cases b <;> cases c <;> simp_all <;> (try obtain ⟨o, rfl, rfl⟩ := h1) <;> (try obtain ⟨o', h3, rfl⟩ := h2) <;> simp_all

theorem star_perm {A B C : Asn} {h : Hp} (H : star A (star B C) h) : star B (star A C) h := by
  obtain ⟨h1, h23, c1, rfl, a, h2, h3, c2, rfl, b, c⟩ := H
  have k := fun i => compat_perm (c1 i) (c2 i)
  exact ⟨h2, hjoin h1 h3, fun i => (k i).1, funext fun i => (k i).2.2, b, h1, h3, fun i => (k i).2.1, rfl, a, c⟩
theorem star_assoc {A B C : Asn} {h : Hp} (H : star (star A B) C h) : star A (star B C) h := by
  obtain ⟨h12, h3, c1, rfl, ⟨h1, h2, c2, rfl, a, b⟩, c⟩ := H
  have k := fun i => compat_assoc (c1 i) (c2 i)
  exact ⟨h1, hjoin h2 h3, fun i => (k i).1, funext fun i => (k i).2.2, a, h2, h3, fun i => (k i).2.1, rfl, b, c⟩
theorem star_assoc' {A B C : Asn} {h : Hp} (H : star A (star B C) h) : star (star A B) C h := by
  obtain ⟨h1, h23, c1, rfl, a, h2, h3, c2, rfl, b, c⟩ := H
  have k := fun i => compat_assoc' (c1 i) (c2 i)
  exact ⟨hjoin h1 h2, h3, fun i => (k i).1, funext fun i => (k i).2.2.symm, ⟨h1, h2, fun i => (k i).2.1, rfl, a, b⟩, c⟩
theorem star_mono {A A' B B' : Asn} (ha : ∀ h, A h → A' h) (hb : ∀ h, B h → B' h) {h : Hp} (H : star A B h) : star A' B' h := by
  obtain ⟨h1, h2, c, e, a, b⟩ := H
  exact ⟨h1, h2, c, e, ha _ a, hb _ b⟩
theorem star_nil {B : Asn} {p : Prop} {h : Hp} (H : star (pureA p) B h) : p ∧ B h := by
  obtain ⟨h1, h2, c, rfl, ⟨hp, rfl⟩, b⟩ := H
  exact ⟨hp, b⟩
theorem nil_star {B : Asn} {p : Prop} {h : Hp} (hp : p) (H : B h) : star (pureA p) B h :=
  ⟨hnil, h, fun _ => .inl rfl, rfl, ⟨hp, rfl⟩, H⟩

/-- a world holds pieces, apart from each other; g: what no call turns -/
structure Sat (g w : World) (L : List Asn) : Prop where
  os : w.os = g.os
  tape : w.tape = g.tape
  output : w.output = g.output
  mem : ∃ h, stars L h ∧ ∀ k o m, h k = some (o, m) → w.heap[k]? = some o

section
variable {g w w' : World} {A B C D E F G A' : Asn} {L L' : List Asn}
theorem Sat.map (S : Sat g w L) (f : ∀ h, stars L h → stars L' h) : Sat g w L' :=
  ⟨S.os, S.tape, S.output, by obtain ⟨h, a, b⟩ := S.mem; exact ⟨h, f h a, b⟩⟩
theorem Sat.head (S : Sat g w (A :: L)) (f : ∀ h, A h → A' h) : Sat g w (A' :: L) := S.map fun _ H => star_mono f (fun _ h => h) H
theorem Sat.drop (S : Sat g w (A :: L)) : Sat g w L := by
  refine ⟨S.os, S.tape, S.output, ?_⟩
  obtain ⟨h, ⟨h1, h2, c, rfl, a, b⟩, m⟩ := S.mem
  refine ⟨h2, b, fun k o f hk => ?_⟩
  rcases c k with e | e | ⟨o', e1, e2⟩
  · exact m k o f (by simp [hjoin, e, hk])
  · rw [e] at hk; cases hk
  · rw [e2] at hk
    injection hk with hk
    injection hk with e3 e4
    subst e3
    exact m k o' false (by simp [hjoin, e1])
theorem p1 {h : Hp} (H : stars (A :: B :: L) h) : stars (B :: A :: L) h := star_perm H
theorem p2 {h : Hp} (H : stars (A :: B :: C :: L) h) : stars (C :: A :: B :: L) h := star_perm (star_mono (fun _ h => h) (fun _ h => p1 h) H)
theorem p3 {h : Hp} (H : stars (A :: B :: C :: D :: L) h) : stars (D :: A :: B :: C :: L) h := star_perm (star_mono (fun _ h => h) (fun _ h => p2 h) H)
theorem p4 {h : Hp} (H : stars (A :: B :: C :: D :: E :: L) h) : stars (E :: A :: B :: C :: D :: L) h := star_perm (star_mono (fun _ h => h) (fun _ h => p3 h) H)
theorem p5 {h : Hp} (H : stars (A :: B :: C :: D :: E :: F :: L) h) : stars (F :: A :: B :: C :: D :: E :: L) h := star_perm (star_mono (fun _ h => h) (fun _ h => p4 h) H)
theorem p6 {h : Hp} (H : stars (A :: B :: C :: D :: E :: F :: G :: L) h) : stars (G :: A :: B :: C :: D :: E :: F :: L) h := star_perm (star_mono (fun _ h => h) (fun _ h => p5 h) H)
theorem b2 {h : Hp} (H : stars (A :: B :: C :: L) h) : stars (B :: C :: A :: L) h := star_mono (fun _ h => h) (fun _ h => p1 h) (star_perm H)
theorem b3 {h : Hp} (H : stars (A :: B :: C :: D :: L) h) : stars (B :: C :: D :: A :: L) h := star_mono (fun _ h => h) (fun _ h => b2 h) (star_perm H)
theorem b4 {h : Hp} (H : stars (A :: B :: C :: D :: E :: L) h) : stars (B :: C :: D :: E :: A :: L) h := star_mono (fun _ h => h) (fun _ h => b3 h) (star_perm H)
theorem b5 {h : Hp} (H : stars (A :: B :: C :: D :: E :: F :: L) h) : stars (B :: C :: D :: E :: F :: A :: L) h := star_mono (fun _ h => h) (fun _ h => b4 h) (star_perm H)
theorem b6 {h : Hp} (H : stars (A :: B :: C :: D :: E :: F :: G :: L) h) : stars (B :: C :: D :: E :: F :: G :: A :: L) h := star_mono (fun _ h => h) (fun _ h => b5 h) (star_perm H)
/-- the k-th piece to the front; and back -/
theorem Sat.p1 (S : Sat g w (A :: B :: L)) : Sat g w (B :: A :: L) := S.map fun _ => Go.Proofs.YtecpfnobnpddaaaDoor.p1
theorem Sat.p2 (S : Sat g w (A :: B :: C :: L)) : Sat g w (C :: A :: B :: L) := S.map fun _ => Go.Proofs.YtecpfnobnpddaaaDoor.p2
theorem Sat.p3 (S : Sat g w (A :: B :: C :: D :: L)) : Sat g w (D :: A :: B :: C :: L) := S.map fun _ => Go.Proofs.YtecpfnobnpddaaaDoor.p3
theorem Sat.p4 (S : Sat g w (A :: B :: C :: D :: E :: L)) : Sat g w (E :: A :: B :: C :: D :: L) := S.map fun _ => Go.Proofs.YtecpfnobnpddaaaDoor.p4
theorem Sat.p5 (S : Sat g w (A :: B :: C :: D :: E :: F :: L)) : Sat g w (F :: A :: B :: C :: D :: E :: L) := S.map fun _ => Go.Proofs.YtecpfnobnpddaaaDoor.p5
theorem Sat.p6 (S : Sat g w (A :: B :: C :: D :: E :: F :: G :: L)) : Sat g w (G :: A :: B :: C :: D :: E :: F :: L) := S.map fun _ => Go.Proofs.YtecpfnobnpddaaaDoor.p6
theorem Sat.b1 (S : Sat g w (A :: B :: L)) : Sat g w (B :: A :: L) := S.map fun _ => Go.Proofs.YtecpfnobnpddaaaDoor.p1
theorem Sat.b2 (S : Sat g w (A :: B :: C :: L)) : Sat g w (B :: C :: A :: L) := S.map fun _ => Go.Proofs.YtecpfnobnpddaaaDoor.b2
theorem Sat.b3 (S : Sat g w (A :: B :: C :: D :: L)) : Sat g w (B :: C :: D :: A :: L) := S.map fun _ => Go.Proofs.YtecpfnobnpddaaaDoor.b3
theorem Sat.b4 (S : Sat g w (A :: B :: C :: D :: E :: L)) : Sat g w (B :: C :: D :: E :: A :: L) := S.map fun _ => Go.Proofs.YtecpfnobnpddaaaDoor.b4
theorem Sat.b5 (S : Sat g w (A :: B :: C :: D :: E :: F :: L)) : Sat g w (B :: C :: D :: E :: F :: A :: L) := S.map fun _ => Go.Proofs.YtecpfnobnpddaaaDoor.b5
theorem Sat.b6 (S : Sat g w (A :: B :: C :: D :: E :: F :: G :: L)) : Sat g w (B :: C :: D :: E :: F :: G :: A :: L) := S.map fun _ => Go.Proofs.YtecpfnobnpddaaaDoor.b6
theorem Sat.split (S : Sat g w (star A B :: L)) : Sat g w (A :: B :: L) := S.map fun _ => star_assoc
theorem Sat.join (S : Sat g w (A :: B :: L)) : Sat g w (star A B :: L) := S.map fun _ => star_assoc'
theorem Sat.pure {p : Prop} (S : Sat g w (pureA p :: L)) : p ∧ Sat g w L := by
  obtain ⟨h, H, _⟩ := S.mem
  exact ⟨(star_nil H).1, S.map fun _ H => (star_nil H).2⟩
theorem Sat.nil {p : Prop} (S : Sat g w L) (hp : p) : Sat g w (pureA p :: L) := S.map fun _ H => nil_star hp H
theorem Sat.ex {α : Type} {A : α → Asn} (S : Sat g w (exA A :: L)) : ∃ x, Sat g w (A x :: L) := by
  obtain ⟨h, ⟨h1, h2, c, e, ⟨x, a⟩, b⟩, m⟩ := S.mem
  exact ⟨x, S.os, S.tape, S.output, h, ⟨h1, h2, c, e, a, b⟩, m⟩
theorem Sat.ex_ {α : Type} {A : α → Asn} (x : α) (S : Sat g w (A x :: L)) : Sat g w (exA A :: L) := S.head fun _ a => ⟨x, a⟩

/-- one piece turns (A to A'), F holds all old blocks that may have turned -/
theorem Sat.step {F : Nat → Prop} (S : Sat g w (A :: L)) (hk : Keeps F w w')
    (hA : ∀ h, A h → (∀ k o m, h k = some (o, m) → w.heap[k]? = some o) → (∀ k, k < w.heap.size → F k → ∃ o, h k = some (o, true)) ∧
      ∃ h', A' h' ∧ (∀ k o m, h' k = some (o, m) → w'.heap[k]? = some o) ∧ ∀ k, k < w.heap.size → h' k = none ∨ h' k = h k ∨ ∃ o, h k = some (o, true)) : Sat g w' (A' :: L) := by
  refine ⟨hk.os.trans S.os, hk.tape.trans S.tape, hk.output.trans S.output, ?_⟩
  obtain ⟨h, ⟨h1, h2, c, rfl, a, b⟩, m⟩ := S.mem
  have m2 : ∀ k o f, h2 k = some (o, f) → w.heap[k]? = some o := by
    intro k o f e
    rcases c k with e1 | e1 | ⟨o', e1, e2⟩
    · exact m k o f (by simp [hjoin, e1, e])
    · rw [e] at e1; cases e1
    · rw [e2] at e
      injection e with e
      injection e with e3 _
      subst e3
      exact m k o' false (by simp [hjoin, e1])
  obtain ⟨hF, h', a', m', hd⟩ := hA h1 a fun k o f e => m k o f (by simp [hjoin, e])
  have cc : ∀ k, compat (h' k) (h2 k) := by
    intro k
    cases e2 : h2 k with
    | none => exact .inr (.inl rfl)
    | some x =>
      obtain ⟨o, f⟩ := x
      have hl : k < w.heap.size := heap_lt (m2 k o f e2)
      rcases hd k hl with e | e | ⟨o', e⟩
      · exact .inl e
      · have := c k
        rw [e2] at this
        rw [e]
        exact this
      · have := c k
        rw [e, e2] at this
        rcases this with h | h | ⟨o'', h, _⟩ <;> simp at h
  refine ⟨hjoin h' h2, ⟨h', h2, cc, rfl, a', b⟩, fun k o f e => ?_⟩
  cases e1 : h' k with
  | some x =>
    obtain ⟨o1, f1⟩ := x
    simp only [hjoin, e1, Option.or_some, Option.some.injEq, Prod.mk.injEq] at e
    obtain ⟨rfl, rfl⟩ := e
    exact m' k _ _ e1
  | none =>
    simp only [hjoin, e1, Option.none_or] at e
    have hl : k < w.heap.size := heap_lt (m2 k o f e)
    rw [hk.block k hl fun hf => ?_]
    · exact m2 k o f e
    · obtain ⟨o', e'⟩ := hF k hl hf
      have := c k
      rw [e, e'] at this
      rcases this with h | h | ⟨o'', h, _⟩ <;> simp at h

theorem Sat.keep {w' : World} (S : Sat g w L) (hk : Keeps (fun _ => False) w w') : Sat g w' L := by
  have := Sat.step (A := pureA True) (A' := pureA True) (S.nil trivial) hk fun h a m => ⟨fun _ _ f => f.elim, h, a, (fun k o f e => by rw [a.2] at e; cases e), fun k _ => .inr (.inl rfl)⟩
  exact this.drop
/-- a new piece -/
theorem Sat.new (S : Sat g w L) (hk : Keeps (fun _ => False) w w') (h' : Hp) (a' : A' h') (m : ∀ k o f, h' k = some (o, f) → w'.heap[k]? = some o) (hd : ∀ k, k < w.heap.size → h' k = none) : Sat g w' (A' :: L) :=
  Sat.step (A := pureA True) (S.nil trivial) hk fun _ _ _ => ⟨fun _ _ f => f.elim, h', a', m, fun k hl => .inl (hd k hl)⟩
theorem Sat.newOwn {Φ : Obj → Prop} (S : Sat g w L) (hk : Keeps (fun _ => False) w w') {b : Nat} {o : Obj} (hb : w.heap.size ≤ b) (ho : w'.heap[b]? = some o) (hΦ : Φ o) : Sat g w' (own b Φ :: L) :=
  S.new hk (hone b o true) ⟨o, hΦ, rfl⟩ (fun k o' f e => by
    unfold hone at e
    split at e
    · rename_i hk; subst hk
      injection e with e
      injection e with e _
      subst e
      exact ho
    · cases e) (fun k hl => by unfold hone; rw [if_neg (by omega)])
theorem Sat.alloc {Φ : Obj → Prop} (S : Sat g w L) (o : Obj) {b : Nat} (hb : w.heap.size = b) (hΦ : Φ o) : Sat g (w.alloc o) (own b Φ :: L) := by
  subst hb
  exact S.newOwn ((Keeps.refl _ _).alloc o) (Nat.le_refl _) (heap_alloc_new w o) hΦ
theorem Sat.drew (S : Sat g w L) : Sat g w.drew L := S.keep (Keeps.refl _ _).drew
theorem Sat.drewN (S : Sat g w L) (n : Nat) : Sat g (w.drewN n) L := S.keep ((Keeps.refl _ _).drewN n)
theorem Sat.own_get {b : Nat} {Φ : Obj → Prop} (S : Sat g w (own b Φ :: L)) : ∃ o, w.heap[b]? = some o ∧ Φ o := by
  obtain ⟨h, ⟨h1, h2, c, rfl, ⟨o, ho, rfl⟩, b'⟩, m⟩ := S.mem
  exact ⟨o, m b o true (by simp [hjoin, hone]), ho⟩
theorem Sat.own_put {b : Nat} {Φ Φ' : Obj → Prop} (S : Sat g w (own b Φ :: L)) (hk : Keeps (fun k => k = b) w w') {o : Obj} (ho : w'.heap[b]? = some o) (hΦ : Φ' o) : Sat g w' (own b Φ' :: L) :=
  S.step hk fun h a m => by
    obtain ⟨o1, h1, rfl⟩ := a
    refine ⟨fun k _ e => ⟨o1, by simp [hone, e]⟩, hone b o true, ⟨o, hΦ, rfl⟩, fun k o' f e => ?_, fun k _ => ?_⟩
    · unfold hone at e
      split at e
      · rename_i hk; subst hk
        injection e with e
        injection e with e _
        subst e
        exact ho
      · cases e
    · by_cases hkb : k = b
      · exact .inr (.inr ⟨o1, by simp [hone, hkb]⟩)
      · exact .inl (by simp [hone, hkb])
theorem Sat.own_lt {b : Nat} {Φ : Obj → Prop} (S : Sat g w (own b Φ :: L)) : b < w.heap.size := by
  obtain ⟨o, h, _⟩ := S.own_get
  exact heap_lt h
theorem Sat.own_ne {b c : Nat} {Φ Ψ : Obj → Prop} (S : Sat g w (own b Φ :: own c Ψ :: L)) : b ≠ c := by
  rintro rfl
  obtain ⟨h, ⟨h1, h2, c1, rfl, ⟨o, ho, rfl⟩, ⟨h3, h4, c2, rfl, ⟨o', ho', rfl⟩, _⟩⟩, _⟩ := S.mem
  have := c1 b
  simp [compat, hone, hjoin] at this

/-- a block of cells -/
def cellsA (b : Nat) (t : TypeId) (cs : Array Value) : Asn := own b fun o => o = .cells cs t (0, 0)
theorem Sat.cells_get {b : Nat} {t : TypeId} {cs : Array Value} (S : Sat g w (cellsA b t cs :: L)) : w.heap[b]? = some (.cells cs t (0, 0)) := by
  obtain ⟨o, h, rfl⟩ := Sat.own_get S
  exact h
theorem Sat.cell {b : Nat} {t : TypeId} {cs : Array Value} (S : Sat g w (cellsA b t cs :: L)) (i : Nat) (v : Value) (hv : cs[i]? = some v) : w.cell? ⟨b, i, none⟩ = some v :=
  (cell_of_row w b i cs t (0, 0) S.cells_get).trans hv
theorem Sat.cells_fz {b : Nat} {t : TypeId} {cs : Array Value} (S : Sat g w (cellsA b t cs :: L)) (i : Nat) : w.frozen? ⟨b, i, none⟩ = false := by
  have := S.cells_get
  simp [World.frozen?, this]
/-- a block's cells, wherever among the pieces it stands -/
theorem Sat.mem_ {A : Asn} (S : Sat g w L) (h : A ∈ L) : ∃ L', Sat g w (A :: L') := by
  induction L with
  | nil => cases h
  | cons B L ih =>
    rcases List.mem_cons.1 h with rfl | h
    · exact ⟨L, S⟩
    · exact ih S.drop h
theorem Sat.cell_of {b : Nat} {t : TypeId} {cs : Array Value} (S : Sat g w L) (h : cellsA b t cs ∈ L) (i : Nat) (v : Value) (hv : cs[i]? = some v) : w.cell? ⟨b, i, none⟩ = some v := by
  obtain ⟨L', S'⟩ := S.mem_ h
  exact S'.cell i v hv
theorem Sat.fz_of {b : Nat} {t : TypeId} {cs : Array Value} (S : Sat g w L) (h : cellsA b t cs ∈ L) (i : Nat) : w.frozen? ⟨b, i, none⟩ = false := by
  obtain ⟨L', S'⟩ := S.mem_ h
  exact S'.cells_fz i
theorem Sat.box (S : Sat g w L) (cs : Array Value) (t : TypeId) {b : Nat} (hb : w.heap.size = b) : Sat g (w.alloc (.cells cs t)) (cellsA b t cs :: L) := S.alloc _ hb rfl
theorem Sat.setc {b : Nat} {t : TypeId} {cs : Array Value} (S : Sat g w (cellsA b t cs :: L)) (i : Nat) (v : Value) : Sat g (w.setCell ⟨b, i, none⟩ v) (cellsA b t (cs.setIfInBounds i v) :: L) :=
  Sat.own_put S ((Keeps.refl (fun k => k = b) w).setCell (p := ⟨b, i, none⟩) (fun _ => rfl) v) (o := .cells (cs.setIfInBounds i v) t (0, 0)) (by have := S.cells_get; simp [World.setCell, Array.getElem?_modify, this]) rfl

theorem Sat.setRow {b : Nat} {t : TypeId} {cs : Array Value} (S : Sat g w (cellsA b t cs :: L)) (cs' : Array Value) : Sat g (w.setRow b cs') (cellsA b t cs' :: L) :=
  Sat.own_put S (keeps_setRow w b cs') (o := .cells cs' t (0, 0)) (setRow_heap w b cs cs' t (0, 0) S.cells_get) rfl
/-- a whole struct stored into a block of one's own -/
theorem wpList_sstore {P : Program} {ops : Array Oper} {rest : List Oper} {o : Oper} {a : Act} {Q : Exit → Act → World → Prop} (hgd : o.guard = none) (ty : TypeId) (x y : Operand) (ho : o.op = .store ty x y)
    {b : Nat} {t : TypeId} {old : Array Value} (S : Sat g w (cellsA b t old :: L)) (cells : Array Value) (hx : a.eval x = .pointer (some ⟨b, 0, none⟩)) (hy : a.eval y = .agg cells)
    (hi : (P.info? ty).map (·.size) = some cells.size) (hold : old.size = cells.size) (h1 : cells.all (·.oneCell') = true)
    (h : Sat g (w.setRow b cells) (cellsA b t cells :: L) → wpList P ops Q rest (a.put o.dst undef) (w.setRow b cells)) : wpList P ops Q (o :: rest) a w :=
  wpList_store_row hgd ty x y ho b cells hx hy t old S.cells_get hi hold h1 (h (S.setRow cells))

/-! ### all that was there -/
theorem Sat.start (W : World) : Sat W W [oldA W] :=
  ⟨rfl, rfl, rfl, fun k => (W.heap[k]?).map fun o => (o, false), ⟨_, hnil, fun _ => .inr (.inl rfl), by funext k; simp [hjoin, hnil], rfl, trivial⟩, fun k o m e => by
    simp only [Option.map_eq_some_iff, Prod.mk.injEq] at e
    obtain ⟨o', e1, rfl, _⟩ := e
    exact e1⟩
theorem Sat.old {W : World} (S : Sat g w (oldA W :: L)) : ∀ k, k < W.heap.size → w.heap[k]? = W.heap[k]? := by
  intro k hk
  obtain ⟨h, ⟨h1, h2, c1, rfl, rfl, _⟩, m⟩ := S.mem
  obtain ⟨o, e⟩ : ∃ o, W.heap[k]? = some o := ⟨W.heap[k], by simp [hk]⟩
  rw [e]
  exact m k o false (by simp [hjoin, e])
theorem Sat.below {W : World} (S : Sat W w (oldA W :: L)) : Below W.heap.size W w := by
  refine ⟨S.os, S.tape, S.output, ?_, fun k hk => Sat.old S k hk⟩
  rcases Nat.eq_zero_or_pos W.heap.size with h | h
  · omega
  · have h1 := Sat.old S (W.heap.size - 1) (by omega)
    have h2 : W.heap[W.heap.size - 1]? = some W.heap[W.heap.size - 1] := by simp [h]
    rw [h2] at h1
    have := heap_lt h1
    omega
theorem Sat.keeps {W : World} (S : Sat W w (oldA W :: L)) : Keeps (fun k => W.heap.size ≤ k) W w := Keeps.of_below S.below
theorem Sat.keepsOf {W : World} (S : Sat W w L) (h : oldA W ∈ L) : Keeps (fun k => W.heap.size ≤ k) W w := by
  obtain ⟨L', S'⟩ := S.mem_ h
  exact S'.keeps
/-- a call that made memory alone -/
theorem Sat.keep_all {W : World} (S : Sat W w (oldA W :: L)) : Keeps (fun _ => False) W w := S.keeps.mono fun k hk h => by omega
theorem hjoin_self (h : Hp) : hjoin h h = h := by
  funext k
  unfold hjoin
  cases h k <;> rfl
theorem Sat.dupOld {W : World} (S : Sat g w (oldA W :: L)) : Sat g w (oldA W :: oldA W :: L) := S.map fun h H => by
  obtain ⟨h1, h2, c, rfl, rfl, b⟩ := H
  refine ⟨_, hjoin (fun k => (W.heap[k]?).map fun o => (o, false)) h2, fun k => ?_, ?_, rfl, _, h2, c, rfl, rfl, b⟩
  · have := c k
    unfold compat hjoin at *
    simp only at *
    cases W.heap[k]? with
    | none => simp
    | some o => simp
  · funext k
    unfold hjoin
    simp only
    cases W.heap[k]? with
    | none => simp
    | some o => simp
theorem Sat.freeze {b : Nat} {o : Obj} (S : Sat g w (own b (fun o' => o' = o) :: L)) : Sat g w (ro b o :: L) :=
  S.step (F := fun _ => False) (Keeps.refl _ _) fun h a m => by
    obtain ⟨o1, rfl, rfl⟩ := a
    refine ⟨fun _ _ f => f.elim, hone b o1 false, rfl, fun k o f e => ?_, fun k _ => ?_⟩
    · unfold hone at e
      split at e
      · rename_i hk; subst hk
        injection e with e
        injection e with e _
        subst e
        exact m k o1 true (by simp [hone])
      · cases e
    · by_cases hkb : k = b
      · exact .inr (.inr ⟨o1, by simp [hone, hkb]⟩)
      · exact .inl (by simp [hone, hkb])
theorem Sat.ro_get {b : Nat} {o : Obj} (S : Sat g w (ro b o :: L)) : w.heap[b]? = some o := by
  obtain ⟨h, ⟨h1, h2, c, rfl, rfl, b'⟩, m⟩ := S.mem
  exact m b o false (by simp [hjoin, hone])
theorem Sat.dupRo {b : Nat} {o : Obj} (S : Sat g w (ro b o :: L)) : Sat g w (ro b o :: ro b o :: L) := S.map fun h H => by
  obtain ⟨h1, h2, c, rfl, rfl, b'⟩ := H
  refine ⟨_, hjoin (hone b o false) h2, fun k => ?_, ?_, rfl, _, h2, c, rfl, rfl, b'⟩
  · have := c k
    unfold compat hjoin hone at *
    by_cases hk : k = b
    · simp only [hk, if_true] at *
      simp
    · simp [hk]
  · funext k
    unfold hjoin hone
    by_cases hk : k = b <;> simp [hk]

/-! ### rows, maps -/
def rowA (e : TypeId) (size : Nat) (v : Value) (n : Nat) (xs : List Value) : Asn := fun h =>
  xs.length = n * size ∧ ((v = .slice none 0 0 ∧ n = 0 ∧ h = hnil) ∨
   ∃ b cap cur, v = .slice (some ⟨b, 0, none⟩) n cap ∧ n ≤ cap ∧ cap ≤ maxLen ∧ cur.size = cap * size ∧ cur.toList.take (n * size) = xs ∧ h = hone b (.cells cur e (0, 0)) true)
theorem Sat.row {e : TypeId} {size : Nat} {v : Value} {n : Nat} {xs : List Value} (S : Sat g w (rowA e size v n xs :: L)) : Row w e size v n xs := by
  obtain ⟨h, ⟨h1, h2, c, rfl, ⟨hl, a⟩, b'⟩, m⟩ := S.mem
  refine ⟨hl, ?_⟩
  rcases a with ⟨rfl, rfl, rfl⟩ | ⟨b, cap, cur, rfl, q1, q2, q3, q4, rfl⟩
  · exact .inl ⟨rfl, rfl⟩
  · exact .inr ⟨b, cap, cur, rfl, Nat.zero_le _, m b _ true (by simp [hjoin, hone]), q1, q2, q3, q4⟩
theorem hone_mem {b : Nat} {o : Obj} {f : Bool} {w : World} (ho : w.heap[b]? = some o) : ∀ k o' f', hone b o f k = some (o', f') → w.heap[k]? = some o' := by
  intro k o' f' e
  unfold hone at e
  split at e
  · rename_i hk; subst hk
    injection e with e
    injection e with e _
    subst e
    exact ho
  · cases e
theorem Sat.grew {e e' : TypeId} {size size' : Nat} {v v' : Value} {n n' : Nat} {xs xs' : List Value} (S : Sat g w (rowA e size v n xs :: L)) (hr : Row w' e' size' v' n' xs') (hg : Grew w v w' v') : Sat g w' (rowA e' size' v' n' xs' :: L) :=
  S.step hg.keeps fun h a m => by
    obtain ⟨hl, a⟩ := a
    have hF : ∀ k, k < w.heap.size → v.ownBlock = some k → ∃ o, h k = some (o, true) := by
      intro k _ hk
      rcases a with ⟨rfl, rfl, rfl⟩ | ⟨b, cap, cur, rfl, q1, q2, q3, q4, rfl⟩
      · cases hk
      · injection hk with hk
        subst hk
        exact ⟨_, by simp [hone]; rfl⟩
    refine ⟨hF, ?_⟩
    obtain ⟨hl', hr'⟩ := hr
    rcases hr' with ⟨rfl, rfl⟩ | ⟨b', cap', cur', rfl, _, hb', r1, r2, r3, r4⟩
    · exact ⟨hnil, ⟨hl', .inl ⟨rfl, rfl, rfl⟩⟩, (fun k o f e => by cases e), fun k _ => .inl rfl⟩
    · refine ⟨hone b' (.cells cur' e' (0, 0)) true, ⟨hl', .inr ⟨b', cap', cur', rfl, r1, r2, r3, r4, rfl⟩⟩, hone_mem hb', fun k hk => ?_⟩
      by_cases hkb : k = b'
      · subst hkb
        rcases hg.new k rfl with h | h
        · exact .inr (.inr (hF k hk h))
        · omega
      · exact .inl (by simp [hone, hkb])
theorem Sat.nilRow (S : Sat g w L) (e : TypeId) (size : Nat) : Sat g w (rowA e size (.slice none 0 0) 0 [] :: L) :=
  (S.nil (p := True) trivial).head fun _ h => ⟨by simp, .inl ⟨rfl, rfl, h.2⟩⟩
/-- a row from a block -/
theorem Sat.rowOf {b : Nat} {t : TypeId} {cs : Array Value} (S : Sat g w (cellsA b t cs :: L)) (size n : Nat) (hn : cs.size = n * size) (hm : n ≤ maxLen) : Sat g w (rowA t size (.slice (some ⟨b, 0, none⟩) n n) n cs.toList :: L) :=
  S.head fun _ h => by
    obtain ⟨o, rfl, rfl⟩ := h
    exact ⟨by simpa using hn, .inr ⟨b, n, cs, rfl, Nat.le_refl _, hm, hn, by rw [List.take_of_length_le (by simp; omega)], rfl⟩⟩

variable {κ α : Type} [DecidableEq κ]
def mapA (kv : κ → Value) (ev : α → Value) (b : Nat) (m : List (κ × α)) : Asn := own b fun o => ∃ es clock, o = .map es clock ∧ MapKept.Stamped es clock ∧ es.toList.map (fun e => (e.key, e.val)) = m.map fun p => (kv p.1, ev p.2)
theorem Sat.mapOf {kv : κ → Value} {ev : α → Value} {b : Nat} {m : List (κ × α)} (S : Sat g w (mapA kv ev b m :: L)) : MapOf kv ev w b m := by
  obtain ⟨o, h, es, clock, rfl, h1, h2⟩ := Sat.own_get S
  exact ⟨es, clock, h, h1, h2⟩
theorem Sat.mapPut {kv : κ → Value} {ev : α → Value} {b : Nat} {m m' : List (κ × α)} (S : Sat g w (mapA kv ev b m :: L)) (hk : Keeps (fun i => i = b) w w') (hm : MapOf kv ev w' b m') : Sat g w' (mapA kv ev b m' :: L) := by
  obtain ⟨es, clock, h, h1, h2⟩ := hm
  exact Sat.own_put S hk h ⟨es, clock, rfl, h1, h2⟩
theorem Sat.mapNew {kv : κ → Value} {ev : α → Value} {b : Nat} {m : List (κ × α)} (S : Sat g w L) (hk : Keeps (fun _ => False) w w') (hb : w.heap.size ≤ b) (hm : MapOf kv ev w' b m) : Sat g w' (mapA kv ev b m :: L) := by
  obtain ⟨es, clock, h, h1, h2⟩ := hm
  exact S.newOwn hk hb h ⟨es, clock, rfl, h1, h2⟩
end

/-- append onto a row of one's own, as one step of a region that draws -/
theorem step_app {P : Program} {t e : TypeId} {size bytes : Nat} {z : Value} (K0 : Sl P t e size bytes z) {ops : Array Oper} {o : Oper} {a : Act} {g w : World} {L : List Asn} {K : Act → World → Prop} {Q : Exit → Act → World → Prop} {E : Prop}
    (hg : o.guard = none) (s x : Operand) (hop : o.op = Op.call { callee := Callee.builtin Builtin.append, args := #[s, x], argTypes := #[t, t] })
    {v : Value} {n : Nat} {xs : List Value} (S : Sat g w (rowA e size v n xs :: L)) (hs : a.eval s = v) {A : Option Addr} {m c : Nat} {news : List Value} (hsrc : Src w size A m news) (hx : a.eval x = .slice A m c) (h1 : ∀ u ∈ news, u.oneCell' = true)
    (h63 : n + m ≤ maxLen) (hbytes : (n + m) * bytes ≤ 140737488355328)
    (hK : ∀ A' c' w', Sat g w' (rowA e size (.slice A' (n + m) c') (n + m) (xs ++ news) :: L) → K (a.put o.dst (.slice A' (n + m) c')) w') :
    if Region.wanted o (yielded ops a.tmps) = true then Oper.wp P o a w K Q else E := by
  have hw : Region.wanted o (yielded ops a.tmps) = true := by simp [Region.wanted, hg]
  rw [if_pos hw]
  obtain ⟨v', w', hr, h2, h3⟩ := run_app K0 S.row (c := c) hsrc h1 h63 hbytes o.type
  unfold Oper.wp execOp
  simp only [hop, resolve, invoke, builtin, Sem.run_bind, Sem.run_pure, Result.andThen_ok, List.map_toArray, List.map_cons, List.map_nil, hs, hx, hr]
  obtain ⟨A', c', e', _⟩ := Row.form h2
  subst e'
  exact hK _ _ _ (S.grew h2 h3)
/-- the same outside a region that draws -/
theorem wpList_sapp {P : Program} {t e : TypeId} {size bytes : Nat} {z : Value} (K0 : Sl P t e size bytes z) {g w : World} {L : List Asn} {ops : Array Oper} {rest : List Oper} {o : Oper} {a : Act} {Q : Exit → Act → World → Prop} (hgd : o.guard = none) (s x : Operand)
    (ho : o.op = .call { callee := .builtin .append, args := #[s, x], argTypes := #[t, t] })
    {v : Value} {n : Nat} {xs : List Value} (S : Sat g w (rowA e size v n xs :: L)) (hs : a.eval s = v) {A : Option Addr} {m c : Nat} {news : List Value} (hsrc : Src w size A m news) (hx : a.eval x = .slice A m c) (h1 : ∀ u ∈ news, u.oneCell' = true)
    (h63 : n + m ≤ maxLen) (hbytes : (n + m) * bytes ≤ 140737488355328)
    (h : ∀ A' c' w', Sat g w' (rowA e size (.slice A' (n + m) c') (n + m) (xs ++ news) :: L) → wpList P ops Q rest (a.put o.dst (.slice A' (n + m) c')) w') : wpList P ops Q (o :: rest) a w :=
  wpList_app K0 hgd s x ho S.row hs hsrc hx h1 h63 hbytes fun v' w' h2 h3 => by
    obtain ⟨A', c', e', _⟩ := Row.form h2
    subst e'
    exact h _ _ _ (S.grew h2 h3)

end Go.Proofs.YtecpfnobnpddaaaDoor
