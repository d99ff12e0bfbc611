/- Words and laws that the seat's walks share, over any program: strings as lists of bytes, what a call keeps, rows that a call owns, maps as lists of pairs. No condition. Maps as lists of pairs, over any program: what a look-up, a store, a deletion and a length give. No condition. Whole structs stored, loaded and handed back, over any program. No condition. Blocks of cells, over any program. No condition. Memory in pieces, over any program: which blocks are a call's own, what they hold, and that the rest stays. No condition. -/
import Derived.WalkKit
import Derived.ProofKit
import Derived.Below
import Derived.WalkSpells
import Derived.WalkLawsBesides
import Derived.Maps.AppendAt
import Derived.Deep.AppendLies
import Derived.Deep.Draws
import Derived.RegionTactic
import Derived.OwnWalk
import Derived.Lib.AppendStr
import Derived.MapKept
import Derived.Laws.IdiomStrings
import Derived.Laws.BytesArg
import Derived.Maps.OwnOps
import Derived.Maps.OwnSet
import Derived.Outline
import Derived.Deep.DeepMust
import Derived.Deep.DeepCutAuto
import Derived.Deep.CutBlock
import Derived.Laws.Tables
import Derived.Laws.ResultCell
import Derived.Deep.RegionLaw
import Derived.Deep.RegionHeld3
namespace Go.Proofs.YtegafdkhbgojcaaGreatDoor
section
set_option linter.unusedVariables false
open Go.RowKit

/-- a fact that the walk does not see -/
theorem hide {p : Prop} (h : p) : Hid p := h

/-! ### strings -/
def S (l : List UInt8) : ByteArray := ⟨l.toArray⟩
@[simp] theorem S_size (l : List UInt8) : (S l).size = l.length := by simp [S, ByteArray.size]
@[simp] theorem S_toList (l : List UInt8) : (S l).data.toList = l := by simp [S]
@[simp] theorem S_data (l : List UInt8) : (S l).data = l.toArray := rfl
theorem S_surj (b : ByteArray) : b = S b.data.toList := by cases b; simp [S]
theorem S_inj {a b : List UInt8} (h : S a = S b) : a = b := by have := congrArg (·.data.toList) h; simpa using this
theorem S_eq {a b : List UInt8} : S a = S b ↔ a = b := ⟨S_inj, fun h => by rw [h]⟩
@[simp] theorem S_toL (l : List UInt8) : (S l).toList = l := by rw [ByteArray.toList_eq]; simp
@[simp] theorem S_get (l : List UInt8) (k : Nat) (h : k < (S l).size) : (S l)[k]'h = l[k]'(by simpa using h) := by
  show (S l).data[k]'_ = _
  simp
theorem S_nil : (⟨#[]⟩ : ByteArray) = S [] := rfl
theorem S_extract (l : List UInt8) (a b : Nat) : (S l).extract a b = S ((l.take b).drop a) := by
  rw [S_surj ((S l).extract a b), S_eq, ByteArray.data_extract]
  simp [S, List.extract_eq_take_drop, List.drop_take]
theorem S_beq (a b : List UInt8) : (S a == S b) = decide (a = b) := by
  rw [Bool.eq_iff_iff, decide_eq_true_iff, MapKept.bytes_beq, S_eq]
theorem S_append (a b : List UInt8) : S a ++ S b = S (a ++ b) := by
  rw [S_surj (S a ++ S b), S_eq, ByteArray.data_append]
  simp [S]

/-- a byte as a cell -/
def B (c : UInt8) : Value := .int .u8 c.toNat
theorem B_ofNat (k : Nat) : B (UInt8.ofNat k) = .int .u8 ((k : Int) % 256) := by
  unfold B
  rw [UInt8.toNat_ofNat']
  rfl
theorem B_ofNat_lt (k : Nat) (h : k < 256) : B (UInt8.ofNat k) = .int .u8 (k : Int) := by
  rw [B_ofNat]
  congr 1
  omega
def Bs (l : List UInt8) : List Value := l.map B
@[simp] theorem Bs_length (l : List UInt8) : (Bs l).length = l.length := by simp [Bs]
@[simp] theorem Bs_nil : Bs [] = [] := rfl
theorem Bs_append (a b : List UInt8) : Bs (a ++ b) = Bs a ++ Bs b := by simp [Bs]
theorem Bs_cells (l : List UInt8) : Lib.strCells (S l) = Bs l := by simp [Lib.strCells, Bs, S, B]
theorem Bs_one (l : List UInt8) : ∀ u ∈ Bs l, u.oneCell' = true := by
  intro u hu
  simp only [Bs, List.mem_map] at hu
  obtain ⟨c, _, rfl⟩ := hu
  rfl

/-- numbers as cells -/
def Is (l : List Int) : List Value := l.map (Value.int .i64)
@[simp] theorem Is_length (l : List Int) : (Is l).length = l.length := by simp [Is]
theorem Is_one (l : List Int) : ∀ u ∈ Is l, u.oneCell' = true := by
  intro u hu
  simp only [Is, List.mem_map] at hu
  obtain ⟨c, _, rfl⟩ := hu
  rfl

/-- '&' with a constant that is not negative -/
theorem and_le (x : Int) (n : Nat) (hn : n < 9223372036854775808) : 0 ≤ bits .and .i64 x (n : Int) ∧ bits .and .i64 x (n : Int) ≤ n := by
  have h2 : (BitVec.ofInt 64 (n : Int)).toNat = n := by
    rw [BitVec.ofInt_natCast, BitVec.toNat_ofNat]; exact Nat.mod_eq_of_lt (by omega)
  have h3 : (BitVec.ofInt 64 x &&& BitVec.ofInt 64 (n : Int)).toNat ≤ n := by
    rw [BitVec.toNat_and, h2]; exact Nat.and_le_right
  have e : bits .and .i64 x (n : Int) = ((BitVec.ofInt 64 x &&& BitVec.ofInt 64 (n : Int)).toNat : Int) := by
    show IntKind.i64.wrap ((BitVec.ofInt 64 x &&& BitVec.ofInt 64 (n : Int)).toNat : Int) = _
    rw [IntWalk.i64_in _ ⟨by omega, by omega⟩]
  rw [e]
  omega

/-! ### what a call keeps -/
structure Keeps (F : Nat → Prop) (w w' : World) : Prop where
  os : w'.os = w.os
  tape : w'.tape = w.tape
  output : w'.output = w.output
  size : w.heap.size ≤ w'.heap.size
  block : ∀ k, k < w.heap.size → ¬ F k → w'.heap[k]? = w.heap[k]?

theorem Keeps.refl (F : Nat → Prop) (w : World) : Keeps F w w := ⟨rfl, rfl, rfl, Nat.le_refl _, fun _ _ _ => rfl⟩
theorem Keeps.mono {F G : Nat → Prop} {w w' : World} (h : Keeps F w w') (hg : ∀ k, k < w.heap.size → F k → G k) : Keeps G w w' :=
  ⟨h.os, h.tape, h.output, h.size, fun k hk hn => h.block k hk fun hf => hn (hg k hk hf)⟩
theorem Keeps.trans {F G : Nat → Prop} {a b c : World} (h : Keeps F a b) (k : Keeps G b c) (hg : ∀ i, i < a.heap.size → G i → F i) : Keeps F a c :=
  ⟨k.os.trans h.os, k.tape.trans h.tape, k.output.trans h.output, Nat.le_trans h.size k.size, fun i hi hn =>
    (k.block i (Nat.lt_of_lt_of_le hi h.size) fun hG => hn (hg i hi hG)).trans (h.block i hi hn)⟩
/-- with one footprint -/
theorem Keeps.trans' {F : Nat → Prop} {a b c : World} (h : Keeps F a b) (k : Keeps F b c) : Keeps F a c := h.trans k fun _ _ h => h
theorem Keeps.of_grown {w w' : World} {row : Option Nat} (h : w.grownBy w' row) : Keeps (fun k => row = some k) w w' :=
  ⟨h.os, h.tape, h.output, h.size, fun k hk hn => h.block k hk fun e => hn e.symm⟩
theorem Keeps.of_below {B : Nat} {w w' : World} (h : Below B w w') : Keeps (fun k => B ≤ k) w w' :=
  ⟨h.os, h.tape, h.output, h.size, fun k _ hn => h.block k (by omega)⟩
theorem Keeps.below {F : Nat → Prop} {w w' : World} {B : Nat} (h : Keeps F w w') (hB : B ≤ w.heap.size) (hF : ∀ k, k < B → ¬ F k) : Below B w w' :=
  ⟨h.os, h.tape, h.output, h.size, fun k hk => h.block k (by omega) (hF k hk)⟩
theorem Keeps.alloc {F : Nat → Prop} {a w : World} (h : Keeps F a w) (o : Obj) : Keeps F a (w.alloc o) :=
  h.trans' ⟨rfl, rfl, rfl, by simp, fun k hk _ => Below.heap_alloc _ _ _ hk⟩
theorem Keeps.drew {F : Nat → Prop} {a w : World} (h : Keeps F a w) : Keeps F a w.drew := ⟨h.os, h.tape, h.output, h.size, h.block⟩
theorem Keeps.drewN {F : Nat → Prop} {a w : World} (h : Keeps F a w) (n : Nat) : Keeps F a (w.drewN n) := ⟨h.os, h.tape, h.output, h.size, h.block⟩
theorem Keeps.setCell {F : Nat → Prop} {a w : World} (h : Keeps F a w) {p : Addr} (hp : p.block < a.heap.size → F p.block) (u : Value) : Keeps F a (w.setCell p u) :=
  h.trans (G := fun k => k = p.block) ⟨rfl, rfl, rfl, by simp [World.setCell], fun k hk hn => Below.heap_setCell _ _ _ _ hn⟩ (fun i hi e => by subst e; exact hp hi)
theorem Keeps.heap {F : Nat → Prop} {w w' : World} (h : Keeps F w w') {k : Nat} {o : Obj} (ho : w.heap[k]? = some o) (hn : ¬ F k) : w'.heap[k]? = some o :=
  (h.block k (Array.getElem?_eq_some_iff.1 ho).1 hn).trans ho
theorem Keeps.cell {F : Nat → Prop} {w w' : World} (h : Keeps F w w') {a : Addr} {v : Value} (hc : w.cell? a = some v) (hn : ¬ F a.block) : w'.cell? a = some v :=
  (World.cell?_of_block (h.block a.block (World.block_lt_of_cell? w a hc) hn)).trans hc

theorem heap_lt {w : World} {k : Nat} {o : Obj} (ho : w.heap[k]? = some o) : k < w.heap.size := (Array.getElem?_eq_some_iff.1 ho).1

/-! ### a slice that is read -/
/-- the slice value '.slice A n c' holds the cells xs of one cell each (or of 'size' cells each) -/
def Src (w : World) (size : Nat) (A : Option Addr) (n : Nat) (xs : List Value) : Prop :=
  xs.length = n * size ∧ (0 < n → ∃ ad, A = some ad ∧ ∀ j u, xs[j]? = some u → w.cell? (ad.add j) = some u)

/-- it lies in blocks that F does not hold -/
def Off (F : Nat → Prop) (A : Option Addr) : Prop := ∀ ad, A = some ad → ¬ F ad.block

theorem add_add (a : Addr) (i j : Nat) : (a.add i).add j = a.add (i + j) := by
  unfold Addr.add
  by_cases hi : i = 0 <;> by_cases hj : j = 0 <;> simp [hi, hj, Nat.add_assoc]
theorem add_succ (a : Addr) (j : Nat) : a.add (j + 1) = ⟨a.block, a.off + (j + 1), none⟩ := by simp [Addr.add]
theorem block_add (a : Addr) (n : Nat) : (a.add n).block = a.block := by unfold Addr.add; split <;> rfl
theorem Src.nil (w : World) (size : Nat) (A : Option Addr) : Src w size A 0 [] := ⟨by simp, fun h => absurd h (by omega)⟩
theorem Src.keep {w w' : World} {size : Nat} {A : Option Addr} {n : Nat} {xs : List Value} {F : Nat → Prop} (h : Src w size A n xs) (hk : Keeps F w w') (hA : Off F A) : Src w' size A n xs :=
  ⟨h.1, fun hn => by
    obtain ⟨ad, e, hc⟩ := h.2 hn
    exact ⟨ad, e, fun j u hu => hk.cell (hc j u hu) (by rw [block_add]; exact hA ad e)⟩⟩
/-- a slice that came in: its cells lie below the heap's size -/
theorem Src.keepB {w w' : World} {size : Nat} {A : Option Addr} {n : Nat} {xs : List Value} {F : Nat → Prop} (h : Src w size A n xs) (hs : 0 < size) (hk : Keeps F w w') (hF : ∀ k, k < w.heap.size → ¬ F k) : Src w' size A n xs :=
  ⟨h.1, fun hn => by
    obtain ⟨ad, e, hc⟩ := h.2 hn
    have hl : 0 < xs.length := by rw [h.1]; exact Nat.mul_pos hn hs
    have h0 := World.block_lt_of_cell? w _ (hc 0 _ (List.getElem?_eq_getElem hl))
    rw [block_add] at h0
    exact ⟨ad, e, fun j u hu => hk.cell (hc j u hu) (by rw [block_add]; exact hF _ h0)⟩⟩
theorem Src.at_ {w : World} {A : Option Addr} {n : Nat} {xs : List Value} (h : Src w 1 A n xs) {k : Nat} (hk : k < n) : ∃ ad u, A = some ad ∧ xs[k]? = some u ∧ w.cell? (ad.add k) = some u := by
  obtain ⟨ad, e, hc⟩ := h.2 (by omega)
  have hl : k < xs.length := by have := h.1; omega
  exact ⟨ad, xs[k], e, List.getElem?_eq_getElem hl, hc k _ (List.getElem?_eq_getElem hl)⟩
theorem add0 (g k : Nat) : (⟨g, 0, none⟩ : Addr).add k = ⟨g, k, none⟩ := by unfold Addr.add; split <;> simp_all
theorem Src.at0 {w : World} {g : Nat} {n : Nat} {xs : List Value} (h : Src w 1 (some ⟨g, 0, none⟩) n xs) {k : Nat} (hk : k < n) : ∃ u, xs[k]? = some u ∧ w.cell? ⟨g, k, none⟩ = some u := by
  obtain ⟨ad, u, e, h1, h2⟩ := h.at_ hk
  cases e
  rw [add0] at h2
  exact ⟨u, h1, h2⟩
/-- a block that was just made for a literal -/
theorem Src.block {w : World} {g : Nat} {cs : Array Value} {e : TypeId} {fz : Nat × Nat} (h : w.heap[g]? = some (.cells cs e fz)) (size n : Nat) (hn : cs.size = n * size) : Src w size (some ⟨g, 0, none⟩) n cs.toList :=
  ⟨by simpa using hn, fun _ => ⟨_, rfl, fun j u hu => by
    have : (⟨g, 0, none⟩ : Addr).add j = ⟨g, j, none⟩ := by unfold Addr.add; split <;> simp_all
    rw [this, cell_of_row w g j cs e fz h]
    simpa using hu⟩⟩

/-! ### a row of the call's own -/
/-- a slice type: its own number, its elements', their cells and bytes and zero -/
structure Sl (P : Program) (t e : TypeId) (size bytes : Nat) (z : Value) : Prop where
  sl : P.underlying t = some (.slice e)
  info : ∃ i, P.info? e = some i ∧ i.zero = some z ∧ i.size = size ∧ i.bytes = bytes
  cells : z.cells.size = size
  pos : 0 < size

theorem Sl.mk' {P : Program} {t e : TypeId} {size bytes : Nat} {z : Value} (h1 : P.underlying t = some (.slice e)) (h2 : (P.info? e).map (fun i => (i.zero, i.size, i.bytes)) = some (some z, size, bytes)) (h3 : z.cells.size = size) (h4 : 0 < size) : Sl P t e size bytes z := by
  obtain ⟨i, hi, a, b, c⟩ := info_parts h2
  exact ⟨h1, ⟨i, hi, a, b, c⟩, h3, h4⟩

abbrev Row (w : World) (e : TypeId) (size : Nat) (v : Value) (n : Nat) (xs : List Value) : Prop := w.ownsRow 0 e size v n xs

/-- v' grew out of v: only v's own row may have turned; v' lies in it, or in a new block -/
structure Grew (w : World) (v : Value) (w' : World) (v' : Value) : Prop where
  keeps : Keeps (fun k => v.ownBlock = some k) w w'
  new : ∀ g, v'.ownBlock = some g → v.ownBlock = some g ∨ w.heap.size ≤ g

theorem Grew.refl (w : World) (v : Value) : Grew w v w v := ⟨Keeps.refl _ _, fun _ h => .inl h⟩
theorem Grew.trans {a b c : World} {u v x : Value} (h : Grew a u b v) (k : Grew b v c x) : Grew a u c x := by
  refine ⟨h.keeps.trans k.keeps fun i hi e => ?_, fun g hg => ?_⟩
  · rcases h.new i e with h1 | h1
    · exact h1
    · omega
  · rcases k.new g hg with h1 | h1
    · exact h.new g h1
    · exact .inr (Nat.le_trans h.keeps.size h1)
theorem Grew.alloc {a w : World} {u v : Value} (h : Grew a u w v) (o : Obj) : Grew a u (w.alloc o) v := ⟨h.keeps.alloc o, h.new⟩
theorem Grew.drew {a w : World} {u v : Value} (h : Grew a u w v) : Grew a u w.drew v := ⟨h.keeps.drew, h.new⟩
theorem Grew.drewN {a w : World} {u v : Value} (h : Grew a u w v) (n : Nat) : Grew a u (w.drewN n) v := ⟨h.keeps.drewN n, h.new⟩
/-- a step that turns neither the row nor anything old but new blocks -/
theorem Grew.then_ {a b c : World} {u v : Value} {F : Nat → Prop} (h : Grew a u b v) (k : Keeps F b c) (hF : ∀ i, i < a.heap.size → F i → u.ownBlock = some i) : Grew a u c v :=
  ⟨h.keeps.trans k hF, h.new⟩

theorem Row.kept {w w' : World} {e : TypeId} {size : Nat} {v : Value} {n : Nat} {xs : List Value} {F : Nat → Prop} (h : Row w e size v n xs) (hk : Keeps F w w') (hF : ∀ g, v.ownBlock = some g → ¬ F g) : Row w' e size v n xs := by
  refine ⟨h.1, ?_⟩
  rcases h.2 with hn | ⟨g, cap, cur, rfl, hb, hgg, rest⟩
  · exact .inl hn
  · exact .inr ⟨g, cap, cur, rfl, hb, hk.heap hgg (hF g rfl), rest⟩
theorem Row.alloc {w : World} {e : TypeId} {size : Nat} {v : Value} {n : Nat} {xs : List Value} (h : Row w e size v n xs) (o : Obj) : Row (w.alloc o) e size v n xs := World.ownsRow.alloc h o
theorem Row.lt {w : World} {e : TypeId} {size : Nat} {v : Value} {n : Nat} {xs : List Value} (h : Row w e size v n xs) {g : Nat} (hg : v.ownBlock = some g) : g < w.heap.size := (World.ownsRow.lt h g hg).2
theorem Row.nil (w : World) (e : TypeId) (size : Nat) : Row w e size (.slice none 0 0) 0 [] := World.ownsRow_nil w 0 e size
theorem Row.len {w : World} {e : TypeId} {size : Nat} {v : Value} {n : Nat} {xs : List Value} (h : Row w e size v n xs) : xs.length = n * size := h.1
/-- what the value looks like -/
theorem Row.form {w : World} {e : TypeId} {size : Nat} {v : Value} {n : Nat} {xs : List Value} (h : Row w e size v n xs) : ∃ A cap, v = .slice A n cap ∧ n ≤ cap ∧ cap ≤ maxLen ∧ Src w size A n xs ∧ (∀ ad, A = some ad → v.ownBlock = some ad.block ∧ ad = ⟨ad.block, 0, none⟩) := by
  have hl := h.1
  rcases h.2 with ⟨rfl, rfl⟩ | ⟨g, cap, cur, rfl, hb, hg, hn, hm, hs, ht⟩
  · exact ⟨none, 0, rfl, Nat.le_refl _, Nat.zero_le _, ⟨hl, fun h => absurd h (by omega)⟩, fun ad h => by cases h⟩
  · refine ⟨_, cap, rfl, hn, hm, ⟨hl, fun _ => ⟨_, rfl, World.ownsRow.cells h (g := g) rfl⟩⟩, fun ad h => ?_⟩
    cases h
    exact ⟨rfl, rfl⟩
/-- its own block is a row of cells of its elements' type -/
theorem Row.typed {w : World} {e : TypeId} {size : Nat} {v : Value} {n : Nat} {xs : List Value} (h : Row w e size v n xs) {g : Nat} (hg : v.ownBlock = some g) : ∃ cur, w.heap[g]? = some (.cells cur e (0, 0)) := by
  rcases h.2 with ⟨rfl, _⟩ | ⟨g', cap, cur, rfl, hb, hgg, _⟩
  · simp [Value.ownBlock] at hg
  · simp [Value.ownBlock] at hg
    subst hg
    exact ⟨cur, hgg⟩
/-- so it is no block of another make -/
theorem Row.ne_ {w : World} {e : TypeId} {size : Nat} {v : Value} {n : Nat} {xs : List Value} (h : Row w e size v n xs) {g : Nat} {o : Obj} (ho : w.heap[g]? = some o) (hne : ∀ cur, o ≠ .cells cur e (0, 0)) : v.ownBlock ≠ some g := by
  intro hg
  obtain ⟨cur, h1⟩ := h.typed hg
  rw [ho] at h1
  exact hne cur (by injection h1)

section
variable {P : Program} {t e : TypeId} {size bytes : Nat} {z : Value}

theorem run_app (K : Sl P t e size bytes z) {w : World} {v : Value} {n : Nat} {xs : List Value} (hown : Row w e size v n xs) {A : Option Addr} {m c : Nat} {news : List Value} (hsrc : Src w size A m news) (h1 : ∀ u ∈ news, u.oneCell' = true)
    (h63 : n + m ≤ maxLen) (hbytes : (n + m) * bytes ≤ 140737488355328) (ty : TypeId) :
    ∃ v' w', (Builtin.append_ #[t, t] ty #[v, .slice A m c]).run P w = .ok v' w' ∧ Row w' e size v' (n + m) (xs ++ news) ∧ Grew w v w' v' := by
  obtain ⟨i, hi, hz, hsize, hby⟩ := K.info
  rcases Nat.eq_zero_or_pos m with h0 | hm
  · subst h0
    have hn : news = [] := List.eq_nil_of_length_eq_zero (by simpa using hsrc.1)
    subst hn
    refine ⟨v, w, ?_, by simpa using hown, Grew.refl _ _⟩
    have hrow := hown
    rcases hown.2 with ⟨rfl, rfl⟩ | ⟨g, cap, cur, rfl, _, _, hnc, _⟩
    · cases A <;> simp [Builtin.append_, run_underlying K.sl, sizeOf, typeInfo, hi, Builtin.lenOf, Builtin.firstCells, loadCells, loadCellsFrom]
    · cases A <;> simp [Builtin.append_, run_underlying K.sl, sizeOf, typeInfo, hi, Builtin.lenOf, Builtin.firstCells, hnc, storeCells, loadCells, loadCellsFrom]
  · obtain ⟨ad, rfl, hc⟩ := hsrc.2 hm
    obtain ⟨v', w', hrun, h2, h3, _, h5⟩ := run_append_own_at (P := P) w 0 t ty e i z size bytes K.sl hi hz hsize hby K.cells K.pos v n xs hown ad m c news hsrc.1 hc h1 h63 hbytes (Nat.zero_le _)
    refine ⟨v', w', hrun, h2, Keeps.of_grown h3, fun g hg => ?_⟩
    rcases h5 with h5 | h5
    · exact .inl (h5 ▸ hg)
    · rw [h5] at hg
      injection hg with hg
      exact .inr (by omega)

theorem wpList_app (K : Sl P t e size bytes z) {w : World} {ops : Array Oper} {rest : List Oper} {o : Oper} {a : Act} {Q : Exit → Act → World → Prop} (hgd : o.guard = none) (s x : Operand)
    (ho : o.op = .call { callee := .builtin .append, args := #[s, x], argTypes := #[t, t] })
    {v : Value} {n : Nat} {xs : List Value} (hown : Row w e size v n xs) (hs : a.eval s = v) {A : Option Addr} {m c : Nat} {news : List Value} (hsrc : Src w size A m news) (hx : a.eval x = .slice A m c) (h1 : ∀ u ∈ news, u.oneCell' = true)
    (h63 : n + m ≤ maxLen) (hbytes : (n + m) * bytes ≤ 140737488355328)
    (h : ∀ v' w', Row w' e size v' (n + m) (xs ++ news) → Grew w v w' v' → wpList P ops Q rest (a.put o.dst v') w') : wpList P ops Q (o :: rest) a w := by
  refine wpList_plain hgd fun K' hK' => ?_
  obtain ⟨v', w', hr, h2, h3⟩ := run_app K hown (c := c) hsrc h1 h63 hbytes o.type
  unfold Oper.wp execOp
  simp only [ho, resolve, invoke, builtin, Sem.run_bind, Sem.run_pure, Result.andThen_ok, List.map_toArray, List.map_cons, List.map_nil, hs, hx, hr]
  exact hK' _ _ (h v' w' h2 h3)

/-- a string's bytes behind a row of bytes -/
theorem run_app_string (K : Sl P t e 1 1 (.int .u8 0)) {u : TypeId} (hu : P.underlying u = some .string) {w : World} {v : Value} {n : Nat} {xs : List Value} (hown : Row w e 1 v n xs) (s : List UInt8)
    (hbytes : n + s.length ≤ 140737488355328) (ty : TypeId) :
    ∃ v' w', (Builtin.append_ #[t, u] ty #[v, .string (S s)]).run P w = .ok v' w' ∧ Row w' e 1 v' (n + s.length) (xs ++ Bs s) ∧ Grew w v w' v' := by
  obtain ⟨i, hi, hz, hsize, hby⟩ := K.info
  have hmx : n + s.length ≤ maxLen := by unfold maxLen; omega
  rcases hown.2 with ⟨rfl, rfl⟩ | ⟨g, cap, cur, rfl, hb, hg, hnc, hcm, hcs, htake⟩
  · obtain ⟨v', w', hr, h2, h3, _⟩ := Lib.run_append_own_string (P := P) w w.heap.size t u ty e i K.sl hu hi hz hsize hby (.slice none 0 0) 0 [] (World.ownsRow_nil _ _ _ _) (S s) (by simpa using hmx) (by simpa using hbytes) (Nat.le_refl _)
    have hx : xs = [] := List.eq_nil_of_length_eq_zero (by simpa using hown.1)
    subst hx
    rw [S_size, Bs_cells] at h2
    refine ⟨v', w', hr, ⟨h2.1, ?_⟩, Keeps.of_grown h3, fun g hg => .inr ?_⟩
    · rcases h2.2 with h | ⟨g, cap, cur, h1, _, h2⟩
      · exact .inl h
      · exact .inr ⟨g, cap, cur, h1, Nat.zero_le _, h2⟩
    · exact (World.ownsRow.lt h2 g hg).1
  · by_cases hroom : n + s.length ≤ cap
    · have hr := Lib.run_append_room_string (P := P) w t u ty e i K.sl hu hi hsize g n cap cur hg (S s) (by simpa using hroom) (by simp at hcs ⊢; omega)
      rw [S_size, Bs_cells] at hr
      have hlen : (xs ++ Bs s).length = (n + s.length) * 1 := by rw [List.length_append, hown.1, Bs_length]; omega
      refine ⟨_, _, hr, ⟨hlen, .inr ⟨g, cap, _, rfl, hb, setRow_heap w g cur _ e _ hg, hroom, hcm, ?_, ?_⟩⟩, Keeps.of_grown (row := some g) ⟨rfl, rfl, rfl, by simp, fun k _ hk => setRow_other w g k _ (fun e => hk (by rw [e]))⟩, fun g' hg' => .inl hg'⟩
      · simp only [List.size_toArray, List.length_append, List.length_take, List.length_drop, Array.length_toList, Bs_length]
        simp at hcs
        omega
      · have ht' : cur.toList.take n = xs := by simpa using htake
        rw [ht', ← hlen]
        exact List.take_left
    · obtain ⟨v', w', hr, h2, h3, _⟩ := Lib.run_append_own_string (P := P) w 0 t u ty e i K.sl hu hi hz hsize hby _ n xs hown (S s) (by simpa using hmx) (by simpa using hbytes) (Nat.zero_le _)
      have holds : ∀ j u, xs[j]? = some u → w.cell? ((⟨g, 0, none⟩ : Addr).add j) = some u := World.ownsRow.cells hown (g := g) rfl
      have hr2 := Lib.run_append_grow_string (P := P) w t u ty e i (.int .u8 0) K.sl hu hi hz ⟨g, 0, none⟩ n cap xs (by rw [hsize]; simpa using hown.1) holds (S s) (by simp; omega) (by simp; unfold maxLen at hmx; omega) (by rw [hby]; exact growslice_fits (by simp; omega) (by simp; omega))
      rw [hr] at hr2
      rw [S_size, Bs_cells] at h2
      refine ⟨v', w', hr, h2, Keeps.of_grown h3, fun g' hg' => .inr ?_⟩
      injection hr2 with e1 e2
      rw [e1] at hg'
      simp [Value.ownBlock] at hg'
      omega

theorem wpList_app_string (K : Sl P t e 1 1 (.int .u8 0)) {u : TypeId} (hu : P.underlying u = some .string) {w : World} {ops : Array Oper} {rest : List Oper} {o : Oper} {a : Act} {Q : Exit → Act → World → Prop} (hgd : o.guard = none) (s x : Operand)
    (ho : o.op = .call { callee := .builtin .append, args := #[s, x], argTypes := #[t, u] })
    {v : Value} {n : Nat} {xs : List Value} (hown : Row w e 1 v n xs) (hs : a.eval s = v) {l : List UInt8} (hx : a.eval x = .string (S l))
    (hbytes : n + l.length ≤ 140737488355328)
    (h : ∀ v' w', Row w' e 1 v' (n + l.length) (xs ++ Bs l) → Grew w v w' v' → wpList P ops Q rest (a.put o.dst v') w') : wpList P ops Q (o :: rest) a w := by
  refine wpList_plain hgd fun K' hK' => ?_
  obtain ⟨v', w', hr, h2, h3⟩ := run_app_string K hu hown l hbytes o.type
  unfold Oper.wp execOp
  simp only [ho, resolve, invoke, builtin, Sem.run_bind, Sem.run_pure, Result.andThen_ok, List.map_toArray, List.map_cons, List.map_nil, hs, hx, hr]
  exact hK' _ _ (h v' w' h2 h3)
end

/-! ### texts as bytes, bytes as a text -/
section
variable {P : Program}
theorem run_toBytes (w : World) {src dst e : TypeId} (hs : P.underlying src = some .string) (hd : P.underlying dst = some (.slice e)) (he : P.underlying e = some (.int .u8)) (l : List UInt8) :
    ∃ c w', (convert src dst (.string (S l))).run P w = .ok (.slice (some ⟨w.heap.size, 0, none⟩) l.length c) w' ∧ Src w' 1 (some ⟨w.heap.size, 0, none⟩) l.length (Bs l) ∧ Keeps (fun _ => False) w w' := by
  refine ⟨_, _, by rw [run_bytes_of_string w src dst e (S l) hs hd he, S_size], ?_, ((Keeps.refl _ w).drew).alloc _⟩
  refine ⟨by simp, fun _ => ⟨_, rfl, fun j u hu => ?_⟩⟩
  have hadd : (⟨w.heap.size, 0, none⟩ : Addr).add j = ⟨w.heap.size, j, none⟩ := by unfold Addr.add; split <;> simp_all
  rw [hadd, cell_of_row _ w.heap.size j _ e _ (heap_alloc_new w.drew _)]
  have hj : j < l.length := by
    have := (List.getElem?_eq_some_iff.1 hu).1
    simpa using this
  have hu' : u = B l[j] := by
    have := List.getElem?_eq_some_iff.1 hu
    obtain ⟨_, h2⟩ := this
    rw [← h2]
    simp [Bs]
  subst hu'
  simp [bytesRow, S, B, Array.getElem?_append, hj]

theorem run_ofBytes {w : World} {src dst e : TypeId} (hs : P.underlying src = some (.slice e)) (he : P.underlying e = some (.int .u8)) (hd : P.underlying dst = some .string) {A : Option Addr} {n : Nat} {l : List UInt8} (hsrc : Src w 1 A n (Bs l)) (c : Nat) :
    (convert src dst (.slice A n c)).run P w = .ok (.string (S l)) w := by
  have hn : l.length = n := by have := hsrc.1; simpa using this
  subst hn
  rcases Nat.eq_zero_or_pos l.length with h0 | hpos
  · have hl : l = [] := List.eq_nil_of_length_eq_zero h0
    subst hl
    cases A with
    | none => exact run_convert_bytes_nil w src e hs he _ c dst hd
    | some a => exact run_convert_bytes_back w src dst e a c [] hs he hd (by intro j hj; simp at hj)
  · obtain ⟨a, rfl, hc⟩ := hsrc.2 hpos
    exact run_convert_bytes_back w src dst e a c l hs he hd (fun j hj => hc j _ (by simp [Bs, B, hj]))
end
end

section
set_option linter.unusedVariables false
set_option linter.unusedSectionVars false
set_option linter.unusedSimpArgs false
open Go.RowKit Go.MapKept

section
variable {κ α : Type} [DecidableEq κ]
def mget (m : List (κ × α)) (k : κ) : Option α := (m.find? fun p => decide (p.1 = k)).map (·.2)
def mput (m : List (κ × α)) (k : κ) (v : α) : List (κ × α) := if (mget m k).isSome then m.map (fun p => if p.1 = k then (k, v) else p) else m ++ [(k, v)]
def mdel (m : List (κ × α)) (k : κ) : List (κ × α) := m.filter fun p => decide (p.1 ≠ k)
abbrev keys (m : List (κ × α)) : List κ := m.map (·.1)

theorem mget_none {m : List (κ × α)} {k : κ} : mget m k = none ↔ k ∉ keys m := by
  simp only [mget, Option.map_eq_none_iff, List.find?_eq_none, decide_eq_true_eq, List.mem_map, not_exists, not_and]
theorem mget_mem {m : List (κ × α)} {k : κ} {v : α} (h : mget m k = some v) : (k, v) ∈ m := by
  simp only [mget, Option.map_eq_some_iff] at h
  obtain ⟨p, hp, rfl⟩ := h
  have h1 := List.find?_some hp
  simp only [decide_eq_true_eq] at h1
  subst h1
  exact List.mem_of_find?_eq_some hp
theorem mget_some {m : List (κ × α)} (hn : (keys m).Nodup) {k : κ} {v : α} (h : (k, v) ∈ m) : mget m k = some v := by
  induction m with
  | nil => cases h
  | cons p m ih =>
    simp only [keys, List.map_cons, List.nodup_cons] at hn
    by_cases hp : p.1 = k
    · rcases List.mem_cons.1 h with rfl | h'
      · simp [mget]
      · exact absurd (List.mem_map.2 ⟨_, h', rfl⟩) (hp ▸ hn.1)
    · rcases List.mem_cons.1 h with rfl | h'
      · exact absurd rfl hp
      · have := ih hn.2 h'
        simp only [mget, List.find?_cons, hp, decide_false] at this ⊢
        exact this
theorem mget_nil (k : κ) : mget ([] : List (κ × α)) k = none := rfl

theorem keys_mput (m : List (κ × α)) (k : κ) (v : α) : keys (mput m k v) = if k ∈ keys m then keys m else keys m ++ [k] := by
  unfold mput
  by_cases h : k ∈ keys m
  · have : (mget m k).isSome = true := by
      cases hg : mget m k with
      | none => exact absurd h (mget_none.1 hg)
      | some v => rfl
    rw [if_pos this, if_pos h]
    simp only [keys, List.map_map]
    apply List.map_congr_left
    intro p _
    simp only [Function.comp]
    split
    · rename_i e; exact e.symm
    · rfl
  · have : mget m k = none := mget_none.2 h
    rw [this, if_neg h]
    simp [keys]
theorem nodup_mput {m : List (κ × α)} (hn : (keys m).Nodup) (k : κ) (v : α) : (keys (mput m k v)).Nodup := by
  rw [keys_mput]
  split
  · exact hn
  · rename_i h
    rw [List.nodup_append]
    refine ⟨hn, by simp, fun a ha b hb e => ?_⟩
    simp at hb
    subst hb
    subst e
    exact h ha
theorem nodup_mdel {m : List (κ × α)} (hn : (keys m).Nodup) (k : κ) : (keys (mdel m k)).Nodup := hn.sublist (List.filter_sublist.map _)

theorem mget_mput (m : List (κ × α)) (k k' : κ) (v : α) : mget (mput m k v) k' = if k' = k then some v else mget m k' := by
  by_cases h : k ∈ keys m
  · have hs : (mget m k).isSome = true := by
      cases hg : mget m k with
      | none => exact absurd h (mget_none.1 hg)
      | some v => rfl
    unfold mput
    rw [if_pos hs]
    clear hs
    induction m with
    | nil => simp at h
    | cons p m ih =>
      by_cases hp : p.1 = k
      · by_cases hk : k' = k
        · subst hk
          simp [mget, hp]
        · have hk2 : ¬ k = k' := fun e => hk e.symm
          have hp2 : ¬ p.1 = k' := fun e => hk (e.symm.trans hp)
          simp only [mget, List.map_cons, hp, if_true, List.find?_cons, decide_eq_true_eq, hk2, decide_false, hp2, hk, if_false] at ih ⊢
          by_cases hm : k ∈ keys m
          · exact ih hm
          · congr 1
            have : m.map (fun p => if p.1 = k then (k, v) else p) = m := by
              conv => rhs; rw [← List.map_id m]
              apply List.map_congr_left
              intro q hq
              have : ¬ q.1 = k := fun e => hm (List.mem_map.2 ⟨q, hq, e⟩)
              simp [this]
            rw [this]
      · have hm : k ∈ keys m := by
          simp only [keys, List.map_cons, List.mem_cons] at h
          rcases h with h | h
          · exact absurd h.symm hp
          · exact h
        have := ih hm
        simp only [mget, List.map_cons, hp, if_false, List.find?_cons] at this ⊢
        by_cases hk : p.1 = k'
        · have : ¬ k' = k := fun e => hp (hk.trans e)
          simp [hk, this]
        · simp only [hk, decide_false]
          exact this
  · have hs : mget m k = none := mget_none.2 h
    unfold mput
    rw [hs]
    simp only [Option.isSome_none, Bool.false_eq_true, if_false, mget, List.find?_append]
    by_cases hk : k' = k
    · subst hk
      have hf : m.find? (fun p => decide (p.1 = k')) = none := by
        simpa [mget] using hs
      rw [hf]
      simp
    · have hk2 : ¬ k = k' := fun e => hk e.symm
      rw [if_neg hk]
      congr 1
      simp [hk2]
theorem mget_mdel (m : List (κ × α)) (k k' : κ) : mget (mdel m k) k' = if k' = k then none else mget m k' := by
  induction m with
  | nil => simp [mdel, mget]
  | cons p m ih =>
    by_cases hp : p.1 = k
    · have e : mdel (p :: m) k = mdel m k := by simp [mdel, hp]
      rw [e, ih]
      by_cases hk : k' = k
      · simp [hk]
      · have : ¬ p.1 = k' := fun e => hk (e.symm.trans hp)
        simp [hk, mget, this]
    · have e : mdel (p :: m) k = p :: mdel m k := by simp [mdel, hp]
      rw [e]
      by_cases hk : p.1 = k'
      · have : ¬ k' = k := fun e => hp (hk.trans e)
        simp [mget, hk, this]
      · have e1 : ∀ l : List (κ × α), mget (p :: l) k' = mget l k' := by intro l; simp [mget, hk]
        rw [e1, e1, ih]
theorem length_mput (m : List (κ × α)) (k : κ) (v : α) : (mput m k v).length = if k ∈ keys m then m.length else m.length + 1 := by
  have h1 : (keys (mput m k v)).length = (mput m k v).length := by simp
  rw [← h1, keys_mput]
  split <;> simp
theorem length_mdel {m : List (κ × α)} (hn : (keys m).Nodup) (k : κ) (h : k ∈ keys m) : (mdel m k).length + 1 = m.length := by
  induction m with
  | nil => simp at h
  | cons p m ih =>
    simp only [keys, List.map_cons, List.nodup_cons] at hn
    by_cases hp : p.1 = k
    · have e : mdel (p :: m) k = mdel m k := by simp [mdel, hp]
      have e2 : mdel m k = m := by
        unfold mdel
        rw [List.filter_eq_self]
        intro q hq
        simp only [decide_eq_true_eq]
        intro e
        exact hn.1 (List.mem_map.2 ⟨q, hq, e.trans hp.symm⟩)
      rw [e, e2]
      simp
    · have hm : k ∈ keys m := by
        simp only [keys, List.map_cons, List.mem_cons] at h
        rcases h with h | h
        · exact absurd h.symm hp
        · exact h
      have e : mdel (p :: m) k = p :: mdel m k := by simp [mdel, hp]
      rw [e, List.length_cons, List.length_cons, ih hn.2 hm]
theorem mem_keys_mdel {m : List (κ × α)} {k k' : κ} : k' ∈ keys (mdel m k) ↔ k' ∈ keys m ∧ k' ≠ k := by
  simp only [keys, mdel, List.mem_map, List.mem_filter, decide_eq_true_eq]
  constructor
  · rintro ⟨p, ⟨h1, h2⟩, rfl⟩; exact ⟨⟨p, h1, rfl⟩, h2⟩
  · rintro ⟨⟨p, h1, rfl⟩, h2⟩; exact ⟨p, ⟨h1, h2⟩, rfl⟩
theorem mem_keys_mget {m : List (κ × α)} {k : κ} : k ∈ keys m ↔ ∃ v, mget m k = some v := by
  constructor
  · intro h
    cases hg : mget m k with
    | none => exact absurd h (mget_none.1 hg)
    | some v => exact ⟨v, rfl⟩
  · rintro ⟨v, hv⟩
    exact List.mem_map.2 ⟨_, mget_mem hv, rfl⟩
end

/-! ### the block -/
structure KeyT (P : Program) (kt : TypeId) (d : TypeDesc) {κ : Type} (kv : κ → Value) : Prop where
  und : P.underlying kt = some d
  key : ∀ k, IsKey d (kv k)
  inj : ∀ a b, kv a = kv b → a = b

section
variable {κ α : Type} [DecidableEq κ]
def MapOf (kv : κ → Value) (ev : α → Value) (w : World) (b : Nat) (m : List (κ × α)) : Prop :=
  ∃ es clock, w.heap[b]? = some (.map es clock) ∧ Stamped es clock ∧ es.toList.map (fun e => (e.key, e.val)) = m.map fun p => (kv p.1, ev p.2)

variable {kv : κ → Value} {ev : α → Value} {w w' : World} {b : Nat} {m : List (κ × α)} {P : Program} {kt : TypeId} {d : TypeDesc}

theorem MapOf.lt (h : MapOf kv ev w b m) : b < w.heap.size := by
  obtain ⟨es, clock, hb, _⟩ := h
  exact heap_lt hb
theorem MapOf.kept {F : Nat → Prop} (h : MapOf kv ev w b m) (hk : Keeps F w w') (hF : ¬ F b) : MapOf kv ev w' b m := by
  obtain ⟨es, clock, hb, r⟩ := h
  exact ⟨es, clock, hk.heap hb hF, r⟩
theorem MapOf.made (kv : κ → Value) (ev : α → Value) (w : World) : MapOf kv ev (w.alloc (.map #[] 0)) w.heap.size [] :=
  ⟨#[], 0, (heap_alloc w _).1, stamped_empty 0, rfl⟩
theorem MapOf.alloc (h : MapOf kv ev w b m) (o : Obj) : MapOf kv ev (w.alloc o) b m := h.kept ((Keeps.refl (fun _ => False) w).alloc o) (fun h => h)
theorem MapOf.nodup (h : MapOf kv ev w b m) : (keys m).Nodup := by
  obtain ⟨es, clock, hb, hs, he⟩ := h
  have h1 := hs.2.2
  have h2 : es.toList.map (·.key) = (keys m).map kv := by
    have := congrArg (List.map Prod.fst) he
    simpa [List.map_map, Function.comp_def] using this
  rw [h2] at h1
  exact List.Pairwise.of_map kv (fun a b hab e => hab (by rw [e])) h1
theorem MapOf.isMap (h : MapOf kv ev w b m) : ∀ cur e fz, w.heap[b]? ≠ some (.cells cur e fz) := by
  obtain ⟨es, clock, hb, _⟩ := h
  intro cur e fz he
  rw [hb] at he
  cases he

theorem ents_key (K : KeyT P kt d kv) {es : Array MapEntry} (he : es.toList.map (fun e => (e.key, e.val)) = m.map fun p => (kv p.1, ev p.2)) : ∀ x ∈ es.toList, IsKey d x.key := by
  intro x hx
  have : (x.key, x.val) ∈ es.toList.map (fun e => (e.key, e.val)) := List.mem_map.2 ⟨x, hx, rfl⟩
  rw [he] at this
  obtain ⟨p, _, hp⟩ := List.mem_map.1 this
  simp only [Prod.mk.injEq] at hp
  rw [← hp.1]
  exact K.key _

theorem ents_none (K : KeyT P kt d kv) {es : Array MapEntry} (he : es.toList.map (fun e => (e.key, e.val)) = m.map fun p => (kv p.1, ev p.2)) {k : κ} (h : ∀ x ∈ es.toList, x.key ≠ kv k) : k ∉ keys m := by
  intro hk
  obtain ⟨p, hp, rfl⟩ := List.mem_map.1 hk
  have : (kv p.1, ev p.2) ∈ m.map fun p => (kv p.1, ev p.2) := List.mem_map.2 ⟨p, hp, rfl⟩
  rw [← he] at this
  obtain ⟨x, hx, hxe⟩ := List.mem_map.1 this
  simp only [Prod.mk.injEq] at hxe
  exact h x hx hxe.1

theorem ents_at (K : KeyT P kt d kv) {es : Array MapEntry} (he : es.toList.map (fun e => (e.key, e.val)) = m.map fun p => (kv p.1, ev p.2)) {k : κ} {j : Nat} {x : MapEntry} (hx : es.toList[j]? = some x) (hxk : x.key = kv k) :
    ∃ v, m[j]? = some (k, v) ∧ x.val = ev v := by
  have h1 := congrArg (·[j]?) he
  simp only [List.getElem?_map, hx, Option.map_some] at h1
  cases hm : m[j]? with
  | none => rw [hm] at h1; simp at h1
  | some p =>
    rw [hm] at h1
    simp only [Option.map_some, Option.some.injEq, Prod.mk.injEq] at h1
    have : p.1 = k := K.inj _ _ (h1.1.symm.trans hxk)
    subst this
    exact ⟨p.2, rfl, h1.2⟩

theorem MapOf.look_some (h : MapOf kv ev w b m) (K : KeyT P kt d kv) {t et : TypeId} (ht : P.underlying t = some (.map kt et)) {k : κ} {v : α} (hg : mget m k = some v) (ok : Bool) :
    (Instr.lookup t (.map (some b)) (kv k) ok).run P w = .ok (if ok then .tuple #[ev v, .bool true] else ev v) w := by
  have hn := h.nodup
  obtain ⟨es, clock, hb, hs, he⟩ := h
  rcases findNow_spec (K.key k) es.toList 0 (ents_key K he) with ⟨h1, h2⟩ | ⟨j, e, h1, h2, h3⟩
  · exact absurd (mem_keys_mget.2 ⟨v, hg⟩) (ents_none K he h2)
  · obtain ⟨v', hv', hev⟩ := ents_at K he h2 h3
    have : mget m k = some v' := mget_some hn (List.mem_of_getElem? hv')
    rw [hg] at this
    injection this with this
    subst this
    simp [Instr.lookup, run_underlying ht, MapKept.run_getObj_map hb, run_checkKey K.und (K.key k), run_findKey K.und h1, Result.andThen, hev]

theorem MapOf.look_none (h : MapOf kv ev w b m) (K : KeyT P kt d kv) {t et : TypeId} (ht : P.underlying t = some (.map kt et)) {k : κ} (hg : mget m k = none) {z : Value} (hz : (zeroValue et).run P w = .ok z w) (ok : Bool) :
    (Instr.lookup t (.map (some b)) (kv k) ok).run P w = .ok (if ok then .tuple #[z, .bool false] else z) w := by
  have hn := h.nodup
  obtain ⟨es, clock, hb, hs, he⟩ := h
  rcases findNow_spec (K.key k) es.toList 0 (ents_key K he) with ⟨h1, h2⟩ | ⟨j, e, h1, h2, h3⟩
  · simp [Instr.lookup, run_underlying ht, MapKept.run_getObj_map hb, run_checkKey K.und (K.key k), run_findKey K.und h1, Result.andThen, hz]
  · obtain ⟨v', hv', hev⟩ := ents_at K he h2 h3
    have : mget m k = some v' := mget_some hn (List.mem_of_getElem? hv')
    rw [hg] at this
    cases this

theorem MapOf.update (h : MapOf kv ev w b m) (K : KeyT P kt d kv) {t et : TypeId} (ht : P.underlying t = some (.map kt et)) (k : κ) (v : α) :
    ∃ w', (Instr.mapUpdate t (.map (some b)) (kv k) (ev v)).run P w = .ok () w' ∧ MapOf kv ev w' b (mput m k v) ∧ Keeps (fun i => i = b) w w' := by
  have hn := h.nodup
  obtain ⟨es, clock, hb, hs, he⟩ := h
  have hks := ents_key K he
  have keeps : ∀ o, Keeps (fun i => i = b) w { w with heap := w.heap.setIfInBounds b o } := fun o =>
    ⟨rfl, rfl, rfl, by simp, fun i _ hi => (heap_set hb).2 i hi⟩
  rcases findNow_spec (K.key k) es.toList 0 hks with ⟨h1, h2⟩ | ⟨j, e, h1, h2, h3⟩
  · refine ⟨{ w with heap := w.heap.setIfInBounds b (.map (es.push { key := kv k, val := ev v, born := clock }) (clock + 1)) }, by simp [Instr.mapUpdate, run_underlying ht, MapKept.run_getObj_map hb, run_checkKey K.und (K.key k), run_findKey K.und h1, run_setObj_map _ hb, Result.andThen], ⟨_, _, (heap_set hb).1, stamped_push hs h2, ?_⟩, keeps _⟩
    have hnk := ents_none K he h2
    have : mget m k = none := mget_none.2 hnk
    simp [mput, this, he]
  · have hj : es[j]? = some e := by simpa using h2
    refine ⟨{ w with heap := w.heap.setIfInBounds b (.map (es.modify j fun e => { e with key := kv k, val := ev v }) clock) }, by simp [Instr.mapUpdate, run_underlying ht, MapKept.run_getObj_map hb, run_checkKey K.und (K.key k), run_findKey K.und h1, hj, h3, run_keyThatStays (K.key k), run_setObj_map _ hb, Result.andThen], ⟨_, _, (heap_set hb).1, ?_, ?_⟩, keeps _⟩
    · refine stamped_modify hs _ _ (fun _ _ => rfl) (fun e' _ he' => ?_)
      rw [hj] at he'
      cases he'
      exact h3.symm
    · obtain ⟨v', hv', hev⟩ := ents_at K he h2 h3
      have hg : mget m k = some v' := mget_some hn (List.mem_of_getElem? hv')
      unfold mput
      rw [hg]
      simp only [Option.isSome_some, if_true]
      apply List.ext_getElem?
      intro i
      have hi := congrArg (·[i]?) he
      simp only [List.getElem?_map] at hi
      simp only [List.getElem?_map, Array.getElem?_toList, Array.getElem?_modify]
      by_cases hij : j = i
      · subst hij
        rw [if_pos rfl, hj, hv']
        simp
      · rw [if_neg hij]
        rw [show es[i]? = es.toList[i]? from by simp, hi]
        cases hm : m[i]? with
        | none => rfl
        | some p =>
          have : ¬ p.1 = k := by
            intro e
            have h5 : (keys m)[i]? = some k := by simp [keys, hm, e]
            have h6 : (keys m)[j]? = some k := by simp [keys, hv']
            obtain ⟨hi', e5⟩ := List.getElem?_eq_some_iff.1 h5
            obtain ⟨hj', e6⟩ := List.getElem?_eq_some_iff.1 h6
            have hp := List.pairwise_iff_getElem.1 hn
            rcases Nat.lt_or_gt_of_ne hij with hlt | hlt
            · exact hp j i hj' hi' hlt (e6.trans e5.symm)
            · exact hp i j hi' hj' hlt (e5.trans e6.symm)
          simp [this]

theorem filter_erase {m : List (κ × α)} (hn : (keys m).Nodup) {j : Nat} {k : κ} {v : α} (h : m[j]? = some (k, v)) : mdel m k = m.eraseIdx j := by
  induction m generalizing j with
  | nil => simp at h
  | cons p m ih =>
    simp only [keys, List.map_cons, List.nodup_cons] at hn
    cases j with
    | zero =>
      simp only [List.getElem?_cons_zero, Option.some.injEq] at h
      subst h
      have e2 : mdel m k = m := by
        unfold mdel
        rw [List.filter_eq_self]
        intro q hq
        simp only [decide_eq_true_eq]
        intro e
        exact hn.1 (List.mem_map.2 ⟨q, hq, e⟩)
      have e : mdel ((k, v) :: m) k = mdel m k := by simp [mdel]
      rw [e, e2]
      rfl
    | succ j =>
      simp only [List.getElem?_cons_succ] at h
      have hp : ¬ p.1 = k := fun e => hn.1 (e ▸ List.mem_map.2 ⟨_, List.mem_of_getElem? h, rfl⟩)
      have e : mdel (p :: m) k = p :: mdel m k := by simp [mdel, hp]
      rw [e, ih hn.2 h]
      rfl

theorem MapOf.delete (h : MapOf kv ev w b m) (K : KeyT P kt d kv) {t et ty t2 : TypeId} (ht : P.underlying t = some (.map kt et)) (k : κ) :
    ∃ w', (Builtin.delete_ #[t, t2] ty #[.map (some b), kv k]).run P w = .ok (.tuple #[]) w' ∧ MapOf kv ev w' b (mdel m k) ∧ Keeps (fun i => i = b) w w' := by
  have hn := h.nodup
  obtain ⟨es, clock, hb, hs, he⟩ := h
  have hks := ents_key K he
  have keeps : ∀ o, Keeps (fun i => i = b) w { w with heap := w.heap.setIfInBounds b o } := fun o =>
    ⟨rfl, rfl, rfl, by simp, fun i _ hi => (heap_set hb).2 i hi⟩
  rcases findNow_spec (K.key k) es.toList 0 hks with ⟨h1, h2⟩ | ⟨j, e, h1, h2, h3⟩
  · refine ⟨_, by simp [Builtin.delete_, run_underlying ht, MapKept.run_getObj_map hb, run_checkKey K.und (K.key k), run_findKey K.und h1, run_setObj_map _ hb, Result.andThen], ⟨_, _, (heap_set hb).1, hs, ?_⟩, keeps _⟩
    have hnk := ents_none K he h2
    have : mdel m k = m := by
      unfold mdel
      rw [List.filter_eq_self]
      intro q hq
      simp only [decide_eq_true_eq]
      intro e
      exact hnk (List.mem_map.2 ⟨q, hq, e⟩)
    rw [this]
    exact he
  · refine ⟨_, by simp [Builtin.delete_, run_underlying ht, MapKept.run_getObj_map hb, run_checkKey K.und (K.key k), run_findKey K.und h1, run_setObj_map _ hb, Result.andThen], ⟨_, _, (heap_set hb).1, stamped_erase hs j, ?_⟩, keeps _⟩
    obtain ⟨v', hv', hev⟩ := ents_at K he h2 h3
    rw [filter_erase hn hv']
    have hjl : j < es.size := by
      have := (List.getElem?_eq_some_iff.1 h2).1
      simpa using this
    rw [Array.toList_eraseIdxIfInBounds, ChangeMaps.map_eraseIdx, ChangeMaps.map_eraseIdx, he]

theorem MapOf.len (h : MapOf kv ev w b m) {t kt et ty : TypeId} (ht : P.underlying t = some (.map kt et)) : (Builtin.len_ #[t] ty #[.map (some b)]).run P w = .ok (.int .i64 m.length) w := by
  obtain ⟨es, clock, hb, hs, he⟩ := h
  have : es.size = m.length := by
    have := congrArg List.length he
    simpa using this
  simp [Builtin.len_, run_underlying ht, MapKept.run_getObj_map hb, Result.andThen, goInt, this]
end
end

section
set_option linter.unusedVariables false
open Go.RowKit

section
variable {P : Program}
theorem wpList_store_row {ops : Array Oper} {rest : List Oper} {o : Oper} {a : Act} {w : World} {Q : Exit → Act → World → Prop} (hgd : o.guard = none) (ty : TypeId) (x y : Operand) (ho : o.op = .store ty x y)
    (g : Nat) (cells : Array Value) (hx : a.eval x = .pointer (some ⟨g, 0, none⟩)) (hy : a.eval y = .agg cells)
    (t : TypeId) (old : Array Value) (hg : w.heap[g]? = some (.cells old t (0, 0))) (hi : (P.info? ty).map (·.size) = some cells.size)
    (hold : old.size = cells.size) (h1 : cells.all (·.oneCell') = true)
    (h : wpList P ops Q rest (a.put o.dst undef) (w.setRow g cells)) : wpList P ops Q (o :: rest) a w :=
  wpList_plain hgd fun _ hK => wp_store_row ty x y ho g cells hx hy t old hg hi hold h1 (hK _ _ h)
theorem keeps_setRow (w : World) (g : Nat) (cells : Array Value) : Keeps (fun k => k = g) w (w.setRow g cells) :=
  ⟨rfl, rfl, rfl, by simp, fun k hk hn => setRow_other w g k cells (fun e => hn e)⟩
/-- a result that lies in a block, and one in a slot -/
theorem results_row_tmp {fn : Func} {p u : Tmp} {ty : TypeId} (h : fn.results = #[.cell p ty, .tmp u]) (tmps : Array Value) (w : World) (g : Nat) (t : TypeId) (cs : Array Value) (fr : Nat × Nat) (d : TypeDesc)
    (hp : tmps.getD p undef = .pointer (some ⟨g, 0, none⟩)) (hg : w.heap[g]? = some (.cells cs t fr))
    (hu : P.underlying ty = some d) (hd : (match d with | .struct _ | .array _ _ => true | _ => false) = true) (hi : (P.info? ty).map (·.size) = some cs.size) :
    (results fn tmps).run P w = .ok (.tuple #[.agg cs, tmps.getD u undef]) w := by
  rw [results_cell_tmp h, hp]
  simp [asAddr, run_loadVar_row w g t ty cs fr d hg hu hd hi, Result.andThen]
end
end

section
set_option linter.unusedVariables false
open Go.RowKit

theorem heap_old_ {w : World} {o o' : Obj} {g : Nat} (h : w.heap[g]? = some o') : (w.alloc o).heap[g]? = some o' := (Below.heap_alloc w o g (heap_lt h)).trans h
/-! ### blocks -/
def Blk (w : World) (g : Nat) (e : TypeId) (cs : Array Value) : Prop := w.heap[g]? = some (.cells cs e (0, 0))
theorem Blk.cell {w g e cs} (h : Blk w g e cs) (i : Nat) (v : Value) (hv : cs[i]? = some v) : w.cell? ⟨g, i, none⟩ = some v := (cell_of_row w g i cs e (0, 0) h).trans hv
theorem Blk.fz {w g e cs} (h : Blk w g e cs) (i : Nat) : w.frozen? ⟨g, i, none⟩ = false := by
  unfold Blk at h; simp [World.frozen?, h]
theorem Blk.lt {w g e cs} (h : Blk w g e cs) : g < w.heap.size := heap_lt h
theorem Blk.kept {w w' g e cs} {F : Nat → Prop} (h : Blk w g e cs) (hk : Keeps F w w') (hF : ¬ F g) : Blk w' g e cs := hk.heap h hF
theorem Blk.set {w g e cs} (h : Blk w g e cs) (i : Nat) (v : Value) : Blk (w.setCell ⟨g, i, none⟩ v) g e (cs.setIfInBounds i v) := by
  unfold Blk at h ⊢; simp [World.setCell, Array.getElem?_modify, h]
theorem Blk.new {w : World} {cs : Array Value} {e : TypeId} {g : Nat} (hg : g = w.heap.size) : Blk (w.alloc (.cells cs e)) g e cs := by subst hg; exact heap_alloc_new w _
theorem Blk.alloc {w g e cs} (h : Blk w g e cs) (o : Obj) : Blk (w.alloc o) g e cs := heap_old_ h
theorem Blk.ne_ {w g e cs g' e' cs'} (h : Blk w g e cs) (h' : Blk w g' e' cs') (hne : e ≠ e') : g ≠ g' := by
  rintro rfl
  unfold Blk at h h'
  rw [h] at h'
  injection h' with h'
  injection h' with _ h'
  exact hne h'
end

section
set_option linter.unusedVariables false
set_option linter.unusedSimpArgs false
set_option linter.unusedSectionVars false
open Go.RowKit

/-- a piece of memory: blocks, what they hold, and whether they are one's own to change -/
abbrev Hp := Nat → Option (Obj × Bool)
abbrev Asn := Hp → Prop
def compat (a b : Option (Obj × Bool)) : Prop := a = none ∨ b = none ∨ ∃ o, a = some (o, false) ∧ b = some (o, false)
def hjoin (h1 h2 : Hp) : Hp := fun k => (h1 k).or (h2 k)
def star (A B : Asn) : Asn := fun h => ∃ h1 h2, (∀ k, compat (h1 k) (h2 k)) ∧ h = hjoin h1 h2 ∧ A h1 ∧ B h2
def stars : List Asn → Asn
  | [] => fun _ => True
  | A :: L => star A (stars L)
def hnil : Hp := fun _ => none
def hone (b : Nat) (o : Obj) (m : Bool) : Hp := fun k => if k = b then some (o, m) else none
/-- a block of one's own -/
def own (b : Nat) (Φ : Obj → Prop) : Asn := fun h => ∃ o, Φ o ∧ h = hone b o true
/-- a block that is read alone -/
def ro (b : Nat) (o : Obj) : Asn := fun h => h = hone b o false
/-- all that was there -/
def oldA (W : World) : Asn := fun h => h = fun k => (W.heap[k]?).map fun o => (o, false)
def pureA (p : Prop) : Asn := fun h => p ∧ h = hnil
def exA {α : Type} (A : α → Asn) : Asn := fun h => ∃ x, A x h

theorem compat_perm {a b c : Option (Obj × Bool)} (h1 : compat a (b.or c)) (h2 : compat b c) : compat b (a.or c) ∧ compat a c ∧ a.or (b.or c) = b.or (a.or c) := by
  unfold compat at *
  cases a <;> cases b <;> cases c <;> simp_all <;> (try obtain ⟨o, rfl, rfl⟩ := h1) <;> (try obtain ⟨o', h3, rfl⟩ := h2) <;> simp_all
theorem compat_symm {a b : Option (Obj × Bool)} (h : compat a b) : compat b a := by
  unfold compat at *
  rcases h with h | h | ⟨o, h1, h2⟩
  · exact .inr (.inl h)
  · exact .inl h
  · exact .inr (.inr ⟨o, h2, h1⟩)
theorem compat_assoc {a b c : Option (Obj × Bool)} (h1 : compat (a.or b) c) (h2 : compat a b) : compat a (b.or c) ∧ compat b c ∧ (a.or b).or c = a.or (b.or c) := by
  unfold compat at *
  cases a <;> cases b <;> cases c <;> simp_all <;> (try obtain ⟨o, rfl, rfl⟩ := h1) <;> (try obtain ⟨o', h3, rfl⟩ := h2) <;> simp_all
theorem compat_assoc' {a b c : Option (Obj × Bool)} (h1 : compat a (b.or c)) (h2 : compat b c) : compat (a.or b) c ∧ compat a b ∧ (a.or b).or c = a.or (b.or c) := by
  unfold compat at *
  cases a <;> cases b <;> cases c <;> simp_all <;> (try obtain ⟨o, rfl, rfl⟩ := h1) <;> (try obtain ⟨o', h3, rfl⟩ := h2) <;> simp_all

theorem star_perm {A B C : Asn} {h : Hp} (H : star A (star B C) h) : star B (star A C) h := by
  obtain ⟨h1, h23, c1, rfl, a, h2, h3, c2, rfl, b, c⟩ := H
  have k := fun i => compat_perm (c1 i) (c2 i)
  exact ⟨h2, hjoin h1 h3, fun i => (k i).1, funext fun i => (k i).2.2, b, h1, h3, fun i => (k i).2.1, rfl, a, c⟩
theorem star_assoc {A B C : Asn} {h : Hp} (H : star (star A B) C h) : star A (star B C) h := by
  obtain ⟨h12, h3, c1, rfl, ⟨h1, h2, c2, rfl, a, b⟩, c⟩ := H
  have k := fun i => compat_assoc (c1 i) (c2 i)
  exact ⟨h1, hjoin h2 h3, fun i => (k i).1, funext fun i => (k i).2.2, a, h2, h3, fun i => (k i).2.1, rfl, b, c⟩
theorem star_assoc' {A B C : Asn} {h : Hp} (H : star A (star B C) h) : star (star A B) C h := by
  obtain ⟨h1, h23, c1, rfl, a, h2, h3, c2, rfl, b, c⟩ := H
  have k := fun i => compat_assoc' (c1 i) (c2 i)
  exact ⟨hjoin h1 h2, h3, fun i => (k i).1, funext fun i => (k i).2.2.symm, ⟨h1, h2, fun i => (k i).2.1, rfl, a, b⟩, c⟩
theorem star_mono {A A' B B' : Asn} (ha : ∀ h, A h → A' h) (hb : ∀ h, B h → B' h) {h : Hp} (H : star A B h) : star A' B' h := by
  obtain ⟨h1, h2, c, e, a, b⟩ := H
  exact ⟨h1, h2, c, e, ha _ a, hb _ b⟩
theorem star_nil {B : Asn} {p : Prop} {h : Hp} (H : star (pureA p) B h) : p ∧ B h := by
  obtain ⟨h1, h2, c, rfl, ⟨hp, rfl⟩, b⟩ := H
  exact ⟨hp, b⟩
theorem nil_star {B : Asn} {p : Prop} {h : Hp} (hp : p) (H : B h) : star (pureA p) B h :=
  ⟨hnil, h, fun _ => .inl rfl, rfl, ⟨hp, rfl⟩, H⟩

/-- a world holds pieces, apart from each other; g: what no call turns -/
structure Sat (g w : World) (L : List Asn) : Prop where
  os : w.os = g.os
  tape : w.tape = g.tape
  output : w.output = g.output
  mem : ∃ h, stars L h ∧ ∀ k o m, h k = some (o, m) → w.heap[k]? = some o

section
variable {g w w' : World} {A B C D E F G A' : Asn} {L L' : List Asn}
theorem Sat.map (S : Sat g w L) (f : ∀ h, stars L h → stars L' h) : Sat g w L' :=
  ⟨S.os, S.tape, S.output, by obtain ⟨h, a, b⟩ := S.mem; exact ⟨h, f h a, b⟩⟩
theorem Sat.head (S : Sat g w (A :: L)) (f : ∀ h, A h → A' h) : Sat g w (A' :: L) := S.map fun _ H => star_mono f (fun _ h => h) H
theorem Sat.drop (S : Sat g w (A :: L)) : Sat g w L := by
  refine ⟨S.os, S.tape, S.output, ?_⟩
  obtain ⟨h, ⟨h1, h2, c, rfl, a, b⟩, m⟩ := S.mem
  refine ⟨h2, b, fun k o f hk => ?_⟩
  rcases c k with e | e | ⟨o', e1, e2⟩
  · exact m k o f (by simp [hjoin, e, hk])
  · rw [e] at hk; cases hk
  · rw [e2] at hk
    injection hk with hk
    injection hk with e3 e4
    subst e3
    exact m k o' false (by simp [hjoin, e1])
theorem p1 {h : Hp} (H : stars (A :: B :: L) h) : stars (B :: A :: L) h := star_perm H
theorem p2 {h : Hp} (H : stars (A :: B :: C :: L) h) : stars (C :: A :: B :: L) h := star_perm (star_mono (fun _ h => h) (fun _ h => p1 h) H)
theorem p3 {h : Hp} (H : stars (A :: B :: C :: D :: L) h) : stars (D :: A :: B :: C :: L) h := star_perm (star_mono (fun _ h => h) (fun _ h => p2 h) H)
theorem p4 {h : Hp} (H : stars (A :: B :: C :: D :: E :: L) h) : stars (E :: A :: B :: C :: D :: L) h := star_perm (star_mono (fun _ h => h) (fun _ h => p3 h) H)
theorem p5 {h : Hp} (H : stars (A :: B :: C :: D :: E :: F :: L) h) : stars (F :: A :: B :: C :: D :: E :: L) h := star_perm (star_mono (fun _ h => h) (fun _ h => p4 h) H)
theorem p6 {h : Hp} (H : stars (A :: B :: C :: D :: E :: F :: G :: L) h) : stars (G :: A :: B :: C :: D :: E :: F :: L) h := star_perm (star_mono (fun _ h => h) (fun _ h => p5 h) H)
theorem b2 {h : Hp} (H : stars (A :: B :: C :: L) h) : stars (B :: C :: A :: L) h := star_mono (fun _ h => h) (fun _ h => p1 h) (star_perm H)
theorem b3 {h : Hp} (H : stars (A :: B :: C :: D :: L) h) : stars (B :: C :: D :: A :: L) h := star_mono (fun _ h => h) (fun _ h => b2 h) (star_perm H)
theorem b4 {h : Hp} (H : stars (A :: B :: C :: D :: E :: L) h) : stars (B :: C :: D :: E :: A :: L) h := star_mono (fun _ h => h) (fun _ h => b3 h) (star_perm H)
theorem b5 {h : Hp} (H : stars (A :: B :: C :: D :: E :: F :: L) h) : stars (B :: C :: D :: E :: F :: A :: L) h := star_mono (fun _ h => h) (fun _ h => b4 h) (star_perm H)
theorem b6 {h : Hp} (H : stars (A :: B :: C :: D :: E :: F :: G :: L) h) : stars (B :: C :: D :: E :: F :: G :: A :: L) h := star_mono (fun _ h => h) (fun _ h => b5 h) (star_perm H)
/-- the k-th piece to the front; and back -/
theorem Sat.p1 (S : Sat g w (A :: B :: L)) : Sat g w (B :: A :: L) := S.map fun _ => Go.Proofs.YtegafdkhbgojcaaGreatDoor.p1
theorem Sat.p2 (S : Sat g w (A :: B :: C :: L)) : Sat g w (C :: A :: B :: L) := S.map fun _ => Go.Proofs.YtegafdkhbgojcaaGreatDoor.p2
theorem Sat.p3 (S : Sat g w (A :: B :: C :: D :: L)) : Sat g w (D :: A :: B :: C :: L) := S.map fun _ => Go.Proofs.YtegafdkhbgojcaaGreatDoor.p3
theorem Sat.p4 (S : Sat g w (A :: B :: C :: D :: E :: L)) : Sat g w (E :: A :: B :: C :: D :: L) := S.map fun _ => Go.Proofs.YtegafdkhbgojcaaGreatDoor.p4
theorem Sat.p5 (S : Sat g w (A :: B :: C :: D :: E :: F :: L)) : Sat g w (F :: A :: B :: C :: D :: E :: L) := S.map fun _ => Go.Proofs.YtegafdkhbgojcaaGreatDoor.p5
theorem Sat.p6 (S : Sat g w (A :: B :: C :: D :: E :: F :: G :: L)) : Sat g w (G :: A :: B :: C :: D :: E :: F :: L) := S.map fun _ => Go.Proofs.YtegafdkhbgojcaaGreatDoor.p6
theorem Sat.b1 (S : Sat g w (A :: B :: L)) : Sat g w (B :: A :: L) := S.map fun _ => Go.Proofs.YtegafdkhbgojcaaGreatDoor.p1
theorem Sat.b2 (S : Sat g w (A :: B :: C :: L)) : Sat g w (B :: C :: A :: L) := S.map fun _ => Go.Proofs.YtegafdkhbgojcaaGreatDoor.b2
theorem Sat.b3 (S : Sat g w (A :: B :: C :: D :: L)) : Sat g w (B :: C :: D :: A :: L) := S.map fun _ => Go.Proofs.YtegafdkhbgojcaaGreatDoor.b3
theorem Sat.b4 (S : Sat g w (A :: B :: C :: D :: E :: L)) : Sat g w (B :: C :: D :: E :: A :: L) := S.map fun _ => Go.Proofs.YtegafdkhbgojcaaGreatDoor.b4
theorem Sat.b5 (S : Sat g w (A :: B :: C :: D :: E :: F :: L)) : Sat g w (B :: C :: D :: E :: F :: A :: L) := S.map fun _ => Go.Proofs.YtegafdkhbgojcaaGreatDoor.b5
theorem Sat.b6 (S : Sat g w (A :: B :: C :: D :: E :: F :: G :: L)) : Sat g w (B :: C :: D :: E :: F :: G :: A :: L) := S.map fun _ => Go.Proofs.YtegafdkhbgojcaaGreatDoor.b6
theorem Sat.split (S : Sat g w (star A B :: L)) : Sat g w (A :: B :: L) := S.map fun _ => star_assoc
theorem Sat.join (S : Sat g w (A :: B :: L)) : Sat g w (star A B :: L) := S.map fun _ => star_assoc'
theorem Sat.pure {p : Prop} (S : Sat g w (pureA p :: L)) : p ∧ Sat g w L := by
  obtain ⟨h, H, _⟩ := S.mem
  exact ⟨(star_nil H).1, S.map fun _ H => (star_nil H).2⟩
theorem Sat.nil {p : Prop} (S : Sat g w L) (hp : p) : Sat g w (pureA p :: L) := S.map fun _ H => nil_star hp H
theorem Sat.ex {α : Type} {A : α → Asn} (S : Sat g w (exA A :: L)) : ∃ x, Sat g w (A x :: L) := by
  obtain ⟨h, ⟨h1, h2, c, e, ⟨x, a⟩, b⟩, m⟩ := S.mem
  exact ⟨x, S.os, S.tape, S.output, h, ⟨h1, h2, c, e, a, b⟩, m⟩
theorem Sat.ex_ {α : Type} {A : α → Asn} (x : α) (S : Sat g w (A x :: L)) : Sat g w (exA A :: L) := S.head fun _ a => ⟨x, a⟩

/-- one piece turns (A to A'), F holds all old blocks that may have turned -/
theorem Sat.step {F : Nat → Prop} (S : Sat g w (A :: L)) (hk : Keeps F w w')
    (hA : ∀ h, A h → (∀ k o m, h k = some (o, m) → w.heap[k]? = some o) → (∀ k, k < w.heap.size → F k → ∃ o, h k = some (o, true)) ∧
      ∃ h', A' h' ∧ (∀ k o m, h' k = some (o, m) → w'.heap[k]? = some o) ∧ ∀ k, k < w.heap.size → h' k = none ∨ h' k = h k ∨ ∃ o, h k = some (o, true)) : Sat g w' (A' :: L) := by
  refine ⟨hk.os.trans S.os, hk.tape.trans S.tape, hk.output.trans S.output, ?_⟩
  obtain ⟨h, ⟨h1, h2, c, rfl, a, b⟩, m⟩ := S.mem
  have m2 : ∀ k o f, h2 k = some (o, f) → w.heap[k]? = some o := by
    intro k o f e
    rcases c k with e1 | e1 | ⟨o', e1, e2⟩
    · exact m k o f (by simp [hjoin, e1, e])
    · rw [e] at e1; cases e1
    · rw [e2] at e
      injection e with e
      injection e with e3 _
      subst e3
      exact m k o' false (by simp [hjoin, e1])
  obtain ⟨hF, h', a', m', hd⟩ := hA h1 a fun k o f e => m k o f (by simp [hjoin, e])
  have cc : ∀ k, compat (h' k) (h2 k) := by
    intro k
    cases e2 : h2 k with
    | none => exact .inr (.inl rfl)
    | some x =>
      obtain ⟨o, f⟩ := x
      have hl : k < w.heap.size := heap_lt (m2 k o f e2)
      rcases hd k hl with e | e | ⟨o', e⟩
      · exact .inl e
      · have := c k
        rw [e2] at this
        rw [e]
        exact this
      · have := c k
        rw [e, e2] at this
        rcases this with h | h | ⟨o'', h, _⟩ <;> simp at h
  refine ⟨hjoin h' h2, ⟨h', h2, cc, rfl, a', b⟩, fun k o f e => ?_⟩
  cases e1 : h' k with
  | some x =>
    obtain ⟨o1, f1⟩ := x
    simp only [hjoin, e1, Option.or_some, Option.some.injEq, Prod.mk.injEq] at e
    obtain ⟨rfl, rfl⟩ := e
    exact m' k _ _ e1
  | none =>
    simp only [hjoin, e1, Option.none_or] at e
    have hl : k < w.heap.size := heap_lt (m2 k o f e)
    rw [hk.block k hl fun hf => ?_]
    · exact m2 k o f e
    · obtain ⟨o', e'⟩ := hF k hl hf
      have := c k
      rw [e, e'] at this
      rcases this with h | h | ⟨o'', h, _⟩ <;> simp at h

theorem Sat.keep {w' : World} (S : Sat g w L) (hk : Keeps (fun _ => False) w w') : Sat g w' L := by
  have := Sat.step (A := pureA True) (A' := pureA True) (S.nil trivial) hk fun h a m => ⟨fun _ _ f => f.elim, h, a, (fun k o f e => by rw [a.2] at e; cases e), fun k _ => .inr (.inl rfl)⟩
  exact this.drop
/-- a new piece -/
theorem Sat.new (S : Sat g w L) (hk : Keeps (fun _ => False) w w') (h' : Hp) (a' : A' h') (m : ∀ k o f, h' k = some (o, f) → w'.heap[k]? = some o) (hd : ∀ k, k < w.heap.size → h' k = none) : Sat g w' (A' :: L) :=
  Sat.step (A := pureA True) (S.nil trivial) hk fun _ _ _ => ⟨fun _ _ f => f.elim, h', a', m, fun k hl => .inl (hd k hl)⟩
theorem Sat.newOwn {Φ : Obj → Prop} (S : Sat g w L) (hk : Keeps (fun _ => False) w w') {b : Nat} {o : Obj} (hb : w.heap.size ≤ b) (ho : w'.heap[b]? = some o) (hΦ : Φ o) : Sat g w' (own b Φ :: L) :=
  S.new hk (hone b o true) ⟨o, hΦ, rfl⟩ (fun k o' f e => by
    unfold hone at e
    split at e
    · rename_i hk; subst hk
      injection e with e
      injection e with e _
      subst e
      exact ho
    · cases e) (fun k hl => by unfold hone; rw [if_neg (by omega)])
theorem Sat.alloc {Φ : Obj → Prop} (S : Sat g w L) (o : Obj) {b : Nat} (hb : w.heap.size = b) (hΦ : Φ o) : Sat g (w.alloc o) (own b Φ :: L) := by
  subst hb
  exact S.newOwn ((Keeps.refl _ _).alloc o) (Nat.le_refl _) (heap_alloc_new w o) hΦ
theorem Sat.drew (S : Sat g w L) : Sat g w.drew L := S.keep (Keeps.refl _ _).drew
theorem Sat.drewN (S : Sat g w L) (n : Nat) : Sat g (w.drewN n) L := S.keep ((Keeps.refl _ _).drewN n)
theorem Sat.own_get {b : Nat} {Φ : Obj → Prop} (S : Sat g w (own b Φ :: L)) : ∃ o, w.heap[b]? = some o ∧ Φ o := by
  obtain ⟨h, ⟨h1, h2, c, rfl, ⟨o, ho, rfl⟩, b'⟩, m⟩ := S.mem
  exact ⟨o, m b o true (by simp [hjoin, hone]), ho⟩
theorem Sat.own_put {b : Nat} {Φ Φ' : Obj → Prop} (S : Sat g w (own b Φ :: L)) (hk : Keeps (fun k => k = b) w w') {o : Obj} (ho : w'.heap[b]? = some o) (hΦ : Φ' o) : Sat g w' (own b Φ' :: L) :=
  S.step hk fun h a m => by
    obtain ⟨o1, h1, rfl⟩ := a
    refine ⟨fun k _ e => ⟨o1, by simp [hone, e]⟩, hone b o true, ⟨o, hΦ, rfl⟩, fun k o' f e => ?_, fun k _ => ?_⟩
    · unfold hone at e
      split at e
      · rename_i hk; subst hk
        injection e with e
        injection e with e _
        subst e
        exact ho
      · cases e
    · by_cases hkb : k = b
      · exact .inr (.inr ⟨o1, by simp [hone, hkb]⟩)
      · exact .inl (by simp [hone, hkb])
theorem Sat.own_lt {b : Nat} {Φ : Obj → Prop} (S : Sat g w (own b Φ :: L)) : b < w.heap.size := by
  obtain ⟨o, h, _⟩ := S.own_get
  exact heap_lt h
theorem Sat.own_ne {b c : Nat} {Φ Ψ : Obj → Prop} (S : Sat g w (own b Φ :: own c Ψ :: L)) : b ≠ c := by
  rintro rfl
  obtain ⟨h, ⟨h1, h2, c1, rfl, ⟨o, ho, rfl⟩, ⟨h3, h4, c2, rfl, ⟨o', ho', rfl⟩, _⟩⟩, _⟩ := S.mem
  have := c1 b
  simp [compat, hone, hjoin] at this

/-- a block of cells -/
def cellsA (b : Nat) (t : TypeId) (cs : Array Value) : Asn := own b fun o => o = .cells cs t (0, 0)
theorem Sat.cells_get {b : Nat} {t : TypeId} {cs : Array Value} (S : Sat g w (cellsA b t cs :: L)) : w.heap[b]? = some (.cells cs t (0, 0)) := by
  obtain ⟨o, h, rfl⟩ := Sat.own_get S
  exact h
theorem Sat.cell {b : Nat} {t : TypeId} {cs : Array Value} (S : Sat g w (cellsA b t cs :: L)) (i : Nat) (v : Value) (hv : cs[i]? = some v) : w.cell? ⟨b, i, none⟩ = some v :=
  (cell_of_row w b i cs t (0, 0) S.cells_get).trans hv
theorem Sat.cells_fz {b : Nat} {t : TypeId} {cs : Array Value} (S : Sat g w (cellsA b t cs :: L)) (i : Nat) : w.frozen? ⟨b, i, none⟩ = false := by
  have := S.cells_get
  simp [World.frozen?, this]
/-- a block's cells, wherever among the pieces it stands -/
theorem Sat.mem_ {A : Asn} (S : Sat g w L) (h : A ∈ L) : ∃ L', Sat g w (A :: L') := by
  induction L with
  | nil => cases h
  | cons B L ih =>
    rcases List.mem_cons.1 h with rfl | h
    · exact ⟨L, S⟩
    · exact ih S.drop h
theorem Sat.cell_of {b : Nat} {t : TypeId} {cs : Array Value} (S : Sat g w L) (h : cellsA b t cs ∈ L) (i : Nat) (v : Value) (hv : cs[i]? = some v) : w.cell? ⟨b, i, none⟩ = some v := by
  obtain ⟨L', S'⟩ := S.mem_ h
  exact S'.cell i v hv
theorem Sat.fz_of {b : Nat} {t : TypeId} {cs : Array Value} (S : Sat g w L) (h : cellsA b t cs ∈ L) (i : Nat) : w.frozen? ⟨b, i, none⟩ = false := by
  obtain ⟨L', S'⟩ := S.mem_ h
  exact S'.cells_fz i
theorem Sat.box (S : Sat g w L) (cs : Array Value) (t : TypeId) {b : Nat} (hb : w.heap.size = b) : Sat g (w.alloc (.cells cs t)) (cellsA b t cs :: L) := S.alloc _ hb rfl
theorem Sat.setc {b : Nat} {t : TypeId} {cs : Array Value} (S : Sat g w (cellsA b t cs :: L)) (i : Nat) (v : Value) : Sat g (w.setCell ⟨b, i, none⟩ v) (cellsA b t (cs.setIfInBounds i v) :: L) :=
  Sat.own_put S ((Keeps.refl (fun k => k = b) w).setCell (p := ⟨b, i, none⟩) (fun _ => rfl) v) (o := .cells (cs.setIfInBounds i v) t (0, 0)) (by have := S.cells_get; simp [World.setCell, Array.getElem?_modify, this]) rfl

theorem Sat.setRow {b : Nat} {t : TypeId} {cs : Array Value} (S : Sat g w (cellsA b t cs :: L)) (cs' : Array Value) : Sat g (w.setRow b cs') (cellsA b t cs' :: L) :=
  Sat.own_put S (keeps_setRow w b cs') (o := .cells cs' t (0, 0)) (setRow_heap w b cs cs' t (0, 0) S.cells_get) rfl
/-- a whole struct stored into a block of one's own -/
theorem wpList_sstore {P : Program} {ops : Array Oper} {rest : List Oper} {o : Oper} {a : Act} {Q : Exit → Act → World → Prop} (hgd : o.guard = none) (ty : TypeId) (x y : Operand) (ho : o.op = .store ty x y)
    {b : Nat} {t : TypeId} {old : Array Value} (S : Sat g w (cellsA b t old :: L)) (cells : Array Value) (hx : a.eval x = .pointer (some ⟨b, 0, none⟩)) (hy : a.eval y = .agg cells)
    (hi : (P.info? ty).map (·.size) = some cells.size) (hold : old.size = cells.size) (h1 : cells.all (·.oneCell') = true)
    (h : Sat g (w.setRow b cells) (cellsA b t cells :: L) → wpList P ops Q rest (a.put o.dst undef) (w.setRow b cells)) : wpList P ops Q (o :: rest) a w :=
  wpList_store_row hgd ty x y ho b cells hx hy t old S.cells_get hi hold h1 (h (S.setRow cells))

/-! ### all that was there -/
theorem Sat.start (W : World) : Sat W W [oldA W] :=
  ⟨rfl, rfl, rfl, fun k => (W.heap[k]?).map fun o => (o, false), ⟨_, hnil, fun _ => .inr (.inl rfl), by funext k; simp [hjoin, hnil], rfl, trivial⟩, fun k o m e => by
    simp only [Option.map_eq_some_iff, Prod.mk.injEq] at e
    obtain ⟨o', e1, rfl, _⟩ := e
    exact e1⟩
theorem Sat.old {W : World} (S : Sat g w (oldA W :: L)) : ∀ k, k < W.heap.size → w.heap[k]? = W.heap[k]? := by
  intro k hk
  obtain ⟨h, ⟨h1, h2, c1, rfl, rfl, _⟩, m⟩ := S.mem
  obtain ⟨o, e⟩ : ∃ o, W.heap[k]? = some o := ⟨W.heap[k], by simp [hk]⟩
  rw [e]
  exact m k o false (by simp [hjoin, e])
theorem Sat.below {W : World} (S : Sat W w (oldA W :: L)) : Below W.heap.size W w := by
  refine ⟨S.os, S.tape, S.output, ?_, fun k hk => Sat.old S k hk⟩
  rcases Nat.eq_zero_or_pos W.heap.size with h | h
  · omega
  · have h1 := Sat.old S (W.heap.size - 1) (by omega)
    have h2 : W.heap[W.heap.size - 1]? = some W.heap[W.heap.size - 1] := by simp [h]
    rw [h2] at h1
    have := heap_lt h1
    omega
theorem Sat.keeps {W : World} (S : Sat W w (oldA W :: L)) : Keeps (fun k => W.heap.size ≤ k) W w := Keeps.of_below S.below
theorem Sat.keepsOf {W : World} (S : Sat W w L) (h : oldA W ∈ L) : Keeps (fun k => W.heap.size ≤ k) W w := by
  obtain ⟨L', S'⟩ := S.mem_ h
  exact S'.keeps
/-- a call that made memory alone -/
theorem Sat.keep_all {W : World} (S : Sat W w (oldA W :: L)) : Keeps (fun _ => False) W w := S.keeps.mono fun k hk h => by omega
theorem hjoin_self (h : Hp) : hjoin h h = h := by
  funext k
  unfold hjoin
  cases h k <;> rfl
theorem Sat.dupOld {W : World} (S : Sat g w (oldA W :: L)) : Sat g w (oldA W :: oldA W :: L) := S.map fun h H => by
  obtain ⟨h1, h2, c, rfl, rfl, b⟩ := H
  refine ⟨_, hjoin (fun k => (W.heap[k]?).map fun o => (o, false)) h2, fun k => ?_, ?_, rfl, _, h2, c, rfl, rfl, b⟩
  · have := c k
    unfold compat hjoin at *
    simp only at *
    cases W.heap[k]? with
    | none => simp
    | some o => simp
  · funext k
    unfold hjoin
    simp only
    cases W.heap[k]? with
    | none => simp
    | some o => simp
theorem Sat.freeze {b : Nat} {o : Obj} (S : Sat g w (own b (fun o' => o' = o) :: L)) : Sat g w (ro b o :: L) :=
  S.step (F := fun _ => False) (Keeps.refl _ _) fun h a m => by
    obtain ⟨o1, rfl, rfl⟩ := a
    refine ⟨fun _ _ f => f.elim, hone b o1 false, rfl, fun k o f e => ?_, fun k _ => ?_⟩
    · unfold hone at e
      split at e
      · rename_i hk; subst hk
        injection e with e
        injection e with e _
        subst e
        exact m k o1 true (by simp [hone])
      · cases e
    · by_cases hkb : k = b
      · exact .inr (.inr ⟨o1, by simp [hone, hkb]⟩)
      · exact .inl (by simp [hone, hkb])
theorem Sat.ro_get {b : Nat} {o : Obj} (S : Sat g w (ro b o :: L)) : w.heap[b]? = some o := by
  obtain ⟨h, ⟨h1, h2, c, rfl, rfl, b'⟩, m⟩ := S.mem
  exact m b o false (by simp [hjoin, hone])
theorem Sat.dupRo {b : Nat} {o : Obj} (S : Sat g w (ro b o :: L)) : Sat g w (ro b o :: ro b o :: L) := S.map fun h H => by
  obtain ⟨h1, h2, c, rfl, rfl, b'⟩ := H
  refine ⟨_, hjoin (hone b o false) h2, fun k => ?_, ?_, rfl, _, h2, c, rfl, rfl, b'⟩
  · have := c k
    unfold compat hjoin hone at *
    by_cases hk : k = b
    · simp only [hk, if_true] at *
      simp
    · simp [hk]
  · funext k
    unfold hjoin hone
    by_cases hk : k = b <;> simp [hk]

/-! ### rows, maps -/
def rowA (e : TypeId) (size : Nat) (v : Value) (n : Nat) (xs : List Value) : Asn := fun h =>
  xs.length = n * size ∧ ((v = .slice none 0 0 ∧ n = 0 ∧ h = hnil) ∨
   ∃ b cap cur, v = .slice (some ⟨b, 0, none⟩) n cap ∧ n ≤ cap ∧ cap ≤ maxLen ∧ cur.size = cap * size ∧ cur.toList.take (n * size) = xs ∧ h = hone b (.cells cur e (0, 0)) true)
theorem Sat.row {e : TypeId} {size : Nat} {v : Value} {n : Nat} {xs : List Value} (S : Sat g w (rowA e size v n xs :: L)) : Row w e size v n xs := by
  obtain ⟨h, ⟨h1, h2, c, rfl, ⟨hl, a⟩, b'⟩, m⟩ := S.mem
  refine ⟨hl, ?_⟩
  rcases a with ⟨rfl, rfl, rfl⟩ | ⟨b, cap, cur, rfl, q1, q2, q3, q4, rfl⟩
  · exact .inl ⟨rfl, rfl⟩
  · exact .inr ⟨b, cap, cur, rfl, Nat.zero_le _, m b _ true (by simp [hjoin, hone]), q1, q2, q3, q4⟩
theorem hone_mem {b : Nat} {o : Obj} {f : Bool} {w : World} (ho : w.heap[b]? = some o) : ∀ k o' f', hone b o f k = some (o', f') → w.heap[k]? = some o' := by
  intro k o' f' e
  unfold hone at e
  split at e
  · rename_i hk; subst hk
    injection e with e
    injection e with e _
    subst e
    exact ho
  · cases e
theorem Sat.grew {e e' : TypeId} {size size' : Nat} {v v' : Value} {n n' : Nat} {xs xs' : List Value} (S : Sat g w (rowA e size v n xs :: L)) (hr : Row w' e' size' v' n' xs') (hg : Grew w v w' v') : Sat g w' (rowA e' size' v' n' xs' :: L) :=
  S.step hg.keeps fun h a m => by
    obtain ⟨hl, a⟩ := a
    have hF : ∀ k, k < w.heap.size → v.ownBlock = some k → ∃ o, h k = some (o, true) := by
      intro k _ hk
      rcases a with ⟨rfl, rfl, rfl⟩ | ⟨b, cap, cur, rfl, q1, q2, q3, q4, rfl⟩
      · cases hk
      · injection hk with hk
        subst hk
        exact ⟨_, by simp [hone]; rfl⟩
    refine ⟨hF, ?_⟩
    obtain ⟨hl', hr'⟩ := hr
    rcases hr' with ⟨rfl, rfl⟩ | ⟨b', cap', cur', rfl, _, hb', r1, r2, r3, r4⟩
    · exact ⟨hnil, ⟨hl', .inl ⟨rfl, rfl, rfl⟩⟩, (fun k o f e => by cases e), fun k _ => .inl rfl⟩
    · refine ⟨hone b' (.cells cur' e' (0, 0)) true, ⟨hl', .inr ⟨b', cap', cur', rfl, r1, r2, r3, r4, rfl⟩⟩, hone_mem hb', fun k hk => ?_⟩
      by_cases hkb : k = b'
      · subst hkb
        rcases hg.new k rfl with h | h
        · exact .inr (.inr (hF k hk h))
        · omega
      · exact .inl (by simp [hone, hkb])
theorem Sat.nilRow (S : Sat g w L) (e : TypeId) (size : Nat) : Sat g w (rowA e size (.slice none 0 0) 0 [] :: L) :=
  (S.nil (p := True) trivial).head fun _ h => ⟨by simp, .inl ⟨rfl, rfl, h.2⟩⟩
/-- a row from a block -/
theorem Sat.rowOf {b : Nat} {t : TypeId} {cs : Array Value} (S : Sat g w (cellsA b t cs :: L)) (size n : Nat) (hn : cs.size = n * size) (hm : n ≤ maxLen) : Sat g w (rowA t size (.slice (some ⟨b, 0, none⟩) n n) n cs.toList :: L) :=
  S.head fun _ h => by
    obtain ⟨o, rfl, rfl⟩ := h
    exact ⟨by simpa using hn, .inr ⟨b, n, cs, rfl, Nat.le_refl _, hm, hn, by rw [List.take_of_length_le (by simp; omega)], rfl⟩⟩

variable {κ α : Type} [DecidableEq κ]
def mapA (kv : κ → Value) (ev : α → Value) (b : Nat) (m : List (κ × α)) : Asn := own b fun o => ∃ es clock, o = .map es clock ∧ MapKept.Stamped es clock ∧ es.toList.map (fun e => (e.key, e.val)) = m.map fun p => (kv p.1, ev p.2)
theorem Sat.mapOf {kv : κ → Value} {ev : α → Value} {b : Nat} {m : List (κ × α)} (S : Sat g w (mapA kv ev b m :: L)) : MapOf kv ev w b m := by
  obtain ⟨o, h, es, clock, rfl, h1, h2⟩ := Sat.own_get S
  exact ⟨es, clock, h, h1, h2⟩
theorem Sat.mapPut {kv : κ → Value} {ev : α → Value} {b : Nat} {m m' : List (κ × α)} (S : Sat g w (mapA kv ev b m :: L)) (hk : Keeps (fun i => i = b) w w') (hm : MapOf kv ev w' b m') : Sat g w' (mapA kv ev b m' :: L) := by
  obtain ⟨es, clock, h, h1, h2⟩ := hm
  exact Sat.own_put S hk h ⟨es, clock, rfl, h1, h2⟩
theorem Sat.mapNew {kv : κ → Value} {ev : α → Value} {b : Nat} {m : List (κ × α)} (S : Sat g w L) (hk : Keeps (fun _ => False) w w') (hb : w.heap.size ≤ b) (hm : MapOf kv ev w' b m) : Sat g w' (mapA kv ev b m :: L) := by
  obtain ⟨es, clock, h, h1, h2⟩ := hm
  exact S.newOwn hk hb h ⟨es, clock, rfl, h1, h2⟩
end

/-- append onto a row of one's own, as one step of a region that draws -/
theorem step_app {P : Program} {t e : TypeId} {size bytes : Nat} {z : Value} (K0 : Sl P t e size bytes z) {ops : Array Oper} {o : Oper} {a : Act} {g w : World} {L : List Asn} {K : Act → World → Prop} {Q : Exit → Act → World → Prop} {E : Prop}
    (hg : o.guard = none) (s x : Operand) (hop : o.op = Op.call { callee := Callee.builtin Builtin.append, args := #[s, x], argTypes := #[t, t] })
    {v : Value} {n : Nat} {xs : List Value} (S : Sat g w (rowA e size v n xs :: L)) (hs : a.eval s = v) {A : Option Addr} {m c : Nat} {news : List Value} (hsrc : Src w size A m news) (hx : a.eval x = .slice A m c) (h1 : ∀ u ∈ news, u.oneCell' = true)
    (h63 : n + m ≤ maxLen) (hbytes : (n + m) * bytes ≤ 140737488355328)
    (hK : ∀ A' c' w', Sat g w' (rowA e size (.slice A' (n + m) c') (n + m) (xs ++ news) :: L) → K (a.put o.dst (.slice A' (n + m) c')) w') :
    if Region.wanted o (yielded ops a.tmps) = true then Oper.wp P o a w K Q else E := by
  have hw : Region.wanted o (yielded ops a.tmps) = true := by simp [Region.wanted, hg]
  rw [if_pos hw]
  obtain ⟨v', w', hr, h2, h3⟩ := run_app K0 S.row (c := c) hsrc h1 h63 hbytes o.type
  unfold Oper.wp execOp
  simp only [hop, resolve, invoke, builtin, Sem.run_bind, Sem.run_pure, Result.andThen_ok, List.map_toArray, List.map_cons, List.map_nil, hs, hx, hr]
  obtain ⟨A', c', e', _⟩ := Row.form h2
  subst e'
  exact hK _ _ _ (S.grew h2 h3)
/-- the same outside a region that draws -/
theorem wpList_sapp {P : Program} {t e : TypeId} {size bytes : Nat} {z : Value} (K0 : Sl P t e size bytes z) {g w : World} {L : List Asn} {ops : Array Oper} {rest : List Oper} {o : Oper} {a : Act} {Q : Exit → Act → World → Prop} (hgd : o.guard = none) (s x : Operand)
    (ho : o.op = .call { callee := .builtin .append, args := #[s, x], argTypes := #[t, t] })
    {v : Value} {n : Nat} {xs : List Value} (S : Sat g w (rowA e size v n xs :: L)) (hs : a.eval s = v) {A : Option Addr} {m c : Nat} {news : List Value} (hsrc : Src w size A m news) (hx : a.eval x = .slice A m c) (h1 : ∀ u ∈ news, u.oneCell' = true)
    (h63 : n + m ≤ maxLen) (hbytes : (n + m) * bytes ≤ 140737488355328)
    (h : ∀ A' c' w', Sat g w' (rowA e size (.slice A' (n + m) c') (n + m) (xs ++ news) :: L) → wpList P ops Q rest (a.put o.dst (.slice A' (n + m) c')) w') : wpList P ops Q (o :: rest) a w :=
  wpList_app K0 hgd s x ho S.row hs hsrc hx h1 h63 hbytes fun v' w' h2 h3 => by
    obtain ⟨A', c', e', _⟩ := Row.form h2
    subst e'
    exact h _ _ _ (S.grew h2 h3)
end

end Go.Proofs.YtegafdkhbgojcaaGreatDoor
