/- Words and laws that the seat's walks share, over any program: strings as lists of bytes, what a call keeps, rows that a call owns, maps as lists of pairs. No condition. -/
import Derived.WalkKit
import Derived.ProofKit
import Derived.Below
import Derived.WalkSpells
import Derived.WalkLawsBesides
import Derived.Maps.AppendAt
import Derived.Deep.AppendLies
import Derived.Deep.Draws
import Derived.RegionTactic
import Derived.OwnWalk
import Derived.Lib.AppendStr
import Derived.MapKept
import Derived.Laws.IdiomStrings
import Derived.Laws.BytesArg
import Derived.Maps.OwnOps
import Derived.Maps.OwnSet
import Derived.Outline
import Derived.Deep.DeepMust
import Derived.Deep.DeepCutAuto
import Derived.Deep.CutBlock
set_option linter.unusedVariables false
namespace Go.Proofs.YtecpfnobnpddaaaDoor
open Go.RowKit

/-- a fact that the walk does not see -/
theorem hide {p : Prop} (h : p) : Hid p := h

/-! ### strings -/
def S (l : List UInt8) : ByteArray := ⟨l.toArray⟩
@[simp] theorem S_size (l : List UInt8) : (S l).size = l.length := by simp [S, ByteArray.size]
@[simp] theorem S_toList (l : List UInt8) : (S l).data.toList = l := by simp [S]
@[simp] theorem S_data (l : List UInt8) : (S l).data = l.toArray := rfl
theorem S_surj (b : ByteArray) : b = S b.data.toList := by cases b; simp [S]
theorem S_inj {a b : List UInt8} (h : S a = S b) : a = b := by have := congrArg (·.data.toList) h; simpa using this
theorem S_eq {a b : List UInt8} : S a = S b ↔ a = b := ⟨S_inj, fun h => by rw [h]⟩
@[simp] theorem S_toL (l : List UInt8) : (S l).toList = l := by rw [ByteArray.toList_eq]; simp
@[simp] theorem S_get (l : List UInt8) (k : Nat) (h : k < (S l).size) : (S l)[k]'h = l[k]'(by simpa using h) := by
  show (S l).data[k]'_ = _
  simp
theorem S_nil : (⟨#[]⟩ : ByteArray) = S [] := rfl
theorem S_extract (l : List UInt8) (a b : Nat) : (S l).extract a b = S ((l.take b).drop a) := by
  rw [S_surj ((S l).extract a b), S_eq, ByteArray.data_extract]
  simp [S, List.extract_eq_take_drop, List.drop_take]
theorem S_beq (a b : List UInt8) : (S a == S b) = decide (a = b) := by
  rw [Bool.eq_iff_iff, decide_eq_true_iff, MapKept.bytes_beq, S_eq]
theorem S_append (a b : List UInt8) : S a ++ S b = S (a ++ b) := by
  rw [S_surj (S a ++ S b), S_eq, ByteArray.data_append]
  simp [S]

/-- a byte as a cell -/
def B (c : UInt8) : Value := .int .u8 c.toNat
theorem B_ofNat (k : Nat) : B (UInt8.ofNat k) = .int .u8 ((k : Int) % 256) := by
  unfold B
  rw [UInt8.toNat_ofNat']
  rfl
theorem B_ofNat_lt (k : Nat) (h : k < 256) : B (UInt8.ofNat k) = .int .u8 (k : Int) := by
  rw [B_ofNat]
  congr 1
  omega
def Bs (l : List UInt8) : List Value := l.map B
@[simp] theorem Bs_length (l : List UInt8) : (Bs l).length = l.length := by simp [Bs]
@[simp] theorem Bs_nil : Bs [] = [] := rfl
theorem Bs_append (a b : List UInt8) : Bs (a ++ b) = Bs a ++ Bs b := by simp [Bs]
theorem Bs_cells (l : List UInt8) : Lib.strCells (S l) = Bs l := by simp [Lib.strCells, Bs, S, B]
theorem Bs_one (l : List UInt8) : ∀ u ∈ Bs l, u.oneCell' = true := by
  intro u hu
  simp only [Bs, List.mem_map] at hu
  obtain ⟨c, _, rfl⟩ := hu
  rfl

/-- numbers as cells -/
def Is (l : List Int) : List Value := l.map (Value.int .i64)
@[simp] theorem Is_length (l : List Int) : (Is l).length = l.length := by simp [Is]
theorem Is_one (l : List Int) : ∀ u ∈ Is l, u.oneCell' = true := by
  intro u hu
  simp only [Is, List.mem_map] at hu
  obtain ⟨c, _, rfl⟩ := hu
  rfl

/-- '&' with a constant that is not negative -/
theorem and_le (x : Int) (n : Nat) (hn : n < 9223372036854775808) : 0 ≤ bits .and .i64 x (n : Int) ∧ bits .and .i64 x (n : Int) ≤ n := by
  have h2 : (BitVec.ofInt 64 (n : Int)).toNat = n := by
    rw [BitVec.ofInt_natCast, BitVec.toNat_ofNat]; exact Nat.mod_eq_of_lt (by omega)
  have h3 : (BitVec.ofInt 64 x &&& BitVec.ofInt 64 (n : Int)).toNat ≤ n := by
    rw [BitVec.toNat_and, h2]; exact Nat.and_le_right
  have e : bits .and .i64 x (n : Int) = ((BitVec.ofInt 64 x &&& BitVec.ofInt 64 (n : Int)).toNat : Int) := by
    show IntKind.i64.wrap ((BitVec.ofInt 64 x &&& BitVec.ofInt 64 (n : Int)).toNat : Int) = _
    rw [IntWalk.i64_in _ ⟨by omega, by omega⟩]
  rw [e]
  omega

/-! ### what a call keeps -/
structure Keeps (F : Nat → Prop) (w w' : World) : Prop where
  os : w'.os = w.os
  tape : w'.tape = w.tape
  output : w'.output = w.output
  size : w.heap.size ≤ w'.heap.size
  block : ∀ k, k < w.heap.size → ¬ F k → w'.heap[k]? = w.heap[k]?

theorem Keeps.refl (F : Nat → Prop) (w : World) : Keeps F w w := ⟨rfl, rfl, rfl, Nat.le_refl _, fun _ _ _ => rfl⟩
theorem Keeps.mono {F G : Nat → Prop} {w w' : World} (h : Keeps F w w') (hg : ∀ k, k < w.heap.size → F k → G k) : Keeps G w w' :=
  ⟨h.os, h.tape, h.output, h.size, fun k hk hn => h.block k hk fun hf => hn (hg k hk hf)⟩
theorem Keeps.trans {F G : Nat → Prop} {a b c : World} (h : Keeps F a b) (k : Keeps G b c) (hg : ∀ i, i < a.heap.size → G i → F i) : Keeps F a c :=
  ⟨k.os.trans h.os, k.tape.trans h.tape, k.output.trans h.output, Nat.le_trans h.size k.size, fun i hi hn =>
    (k.block i (Nat.lt_of_lt_of_le hi h.size) fun hG => hn (hg i hi hG)).trans (h.block i hi hn)⟩
/-- with one footprint -/
theorem Keeps.trans' {F : Nat → Prop} {a b c : World} (h : Keeps F a b) (k : Keeps F b c) : Keeps F a c := h.trans k fun _ _ h => h
theorem Keeps.of_grown {w w' : World} {row : Option Nat} (h : w.grownBy w' row) : Keeps (fun k => row = some k) w w' :=
  ⟨h.os, h.tape, h.output, h.size, fun k hk hn => h.block k hk fun e => hn e.symm⟩
theorem Keeps.of_below {B : Nat} {w w' : World} (h : Below B w w') : Keeps (fun k => B ≤ k) w w' :=
  ⟨h.os, h.tape, h.output, h.size, fun k _ hn => h.block k (by omega)⟩
theorem Keeps.below {F : Nat → Prop} {w w' : World} {B : Nat} (h : Keeps F w w') (hB : B ≤ w.heap.size) (hF : ∀ k, k < B → ¬ F k) : Below B w w' :=
  ⟨h.os, h.tape, h.output, h.size, fun k hk => h.block k (by omega) (hF k hk)⟩
theorem Keeps.alloc {F : Nat → Prop} {a w : World} (h : Keeps F a w) (o : Obj) : Keeps F a (w.alloc o) :=
  h.trans' ⟨rfl, rfl, rfl, by simp, fun k hk _ => Below.heap_alloc _ _ _ hk⟩
theorem Keeps.drew {F : Nat → Prop} {a w : World} (h : Keeps F a w) : Keeps F a w.drew := ⟨h.os, h.tape, h.output, h.size, h.block⟩
theorem Keeps.drewN {F : Nat → Prop} {a w : World} (h : Keeps F a w) (n : Nat) : Keeps F a (w.drewN n) := ⟨h.os, h.tape, h.output, h.size, h.block⟩
theorem Keeps.setCell {F : Nat → Prop} {a w : World} (h : Keeps F a w) {p : Addr} (hp : p.block < a.heap.size → F p.block) (u : Value) : Keeps F a (w.setCell p u) :=
  h.trans (G := fun k => k = p.block) ⟨rfl, rfl, rfl, by simp [World.setCell], fun k hk hn => Below.heap_setCell _ _ _ _ hn⟩ (fun i hi e => by subst e; exact hp hi)
theorem Keeps.heap {F : Nat → Prop} {w w' : World} (h : Keeps F w w') {k : Nat} {o : Obj} (ho : w.heap[k]? = some o) (hn : ¬ F k) : w'.heap[k]? = some o :=
  (h.block k (Array.getElem?_eq_some_iff.1 ho).1 hn).trans ho
theorem Keeps.cell {F : Nat → Prop} {w w' : World} (h : Keeps F w w') {a : Addr} {v : Value} (hc : w.cell? a = some v) (hn : ¬ F a.block) : w'.cell? a = some v :=
  (World.cell?_of_block (h.block a.block (World.block_lt_of_cell? w a hc) hn)).trans hc

theorem heap_lt {w : World} {k : Nat} {o : Obj} (ho : w.heap[k]? = some o) : k < w.heap.size := (Array.getElem?_eq_some_iff.1 ho).1

/-! ### a slice that is read -/
/-- the slice value '.slice A n c' holds the cells xs of one cell each (or of 'size' cells each) -/
def Src (w : World) (size : Nat) (A : Option Addr) (n : Nat) (xs : List Value) : Prop :=
  xs.length = n * size ∧ (0 < n → ∃ ad, A = some ad ∧ ∀ j u, xs[j]? = some u → w.cell? (ad.add j) = some u)

/-- it lies in blocks that F does not hold -/
def Off (F : Nat → Prop) (A : Option Addr) : Prop := ∀ ad, A = some ad → ¬ F ad.block

theorem add_add (a : Addr) (i j : Nat) : (a.add i).add j = a.add (i + j) := by
  unfold Addr.add
  by_cases hi : i = 0 <;> by_cases hj : j = 0 <;> simp [hi, hj, Nat.add_assoc]
theorem add_succ (a : Addr) (j : Nat) : a.add (j + 1) = ⟨a.block, a.off + (j + 1), none⟩ := by simp [Addr.add]
theorem block_add (a : Addr) (n : Nat) : (a.add n).block = a.block := by unfold Addr.add; split <;> rfl
theorem Src.nil (w : World) (size : Nat) (A : Option Addr) : Src w size A 0 [] := ⟨by simp, fun h => absurd h (by omega)⟩
theorem Src.keep {w w' : World} {size : Nat} {A : Option Addr} {n : Nat} {xs : List Value} {F : Nat → Prop} (h : Src w size A n xs) (hk : Keeps F w w') (hA : Off F A) : Src w' size A n xs :=
  ⟨h.1, fun hn => by
    obtain ⟨ad, e, hc⟩ := h.2 hn
    exact ⟨ad, e, fun j u hu => hk.cell (hc j u hu) (by rw [block_add]; exact hA ad e)⟩⟩
/-- a slice that came in: its cells lie below the heap's size -/
theorem Src.keepB {w w' : World} {size : Nat} {A : Option Addr} {n : Nat} {xs : List Value} {F : Nat → Prop} (h : Src w size A n xs) (hs : 0 < size) (hk : Keeps F w w') (hF : ∀ k, k < w.heap.size → ¬ F k) : Src w' size A n xs :=
  ⟨h.1, fun hn => by
    obtain ⟨ad, e, hc⟩ := h.2 hn
    have hl : 0 < xs.length := by rw [h.1]; exact Nat.mul_pos hn hs
    have h0 := World.block_lt_of_cell? w _ (hc 0 _ (List.getElem?_eq_getElem hl))
    rw [block_add] at h0
    exact ⟨ad, e, fun j u hu => hk.cell (hc j u hu) (by rw [block_add]; exact hF _ h0)⟩⟩
theorem Src.at_ {w : World} {A : Option Addr} {n : Nat} {xs : List Value} (h : Src w 1 A n xs) {k : Nat} (hk : k < n) : ∃ ad u, A = some ad ∧ xs[k]? = some u ∧ w.cell? (ad.add k) = some u := by
  obtain ⟨ad, e, hc⟩ := h.2 (by omega)
  have hl : k < xs.length := by have := h.1; omega
  exact ⟨ad, xs[k], e, List.getElem?_eq_getElem hl, hc k _ (List.getElem?_eq_getElem hl)⟩
theorem add0 (g k : Nat) : (⟨g, 0, none⟩ : Addr).add k = ⟨g, k, none⟩ := by unfold Addr.add; split <;> simp_all
theorem Src.at0 {w : World} {g : Nat} {n : Nat} {xs : List Value} (h : Src w 1 (some ⟨g, 0, none⟩) n xs) {k : Nat} (hk : k < n) : ∃ u, xs[k]? = some u ∧ w.cell? ⟨g, k, none⟩ = some u := by
  obtain ⟨ad, u, e, h1, h2⟩ := h.at_ hk
  cases e
  rw [add0] at h2
  exact ⟨u, h1, h2⟩
/-- a block that was just made for a literal -/
theorem Src.block {w : World} {g : Nat} {cs : Array Value} {e : TypeId} {fz : Nat × Nat} (h : w.heap[g]? = some (.cells cs e fz)) (size n : Nat) (hn : cs.size = n * size) : Src w size (some ⟨g, 0, none⟩) n cs.toList :=
  ⟨by simpa using hn, fun _ => ⟨_, rfl, fun j u hu => by
    have : (⟨g, 0, none⟩ : Addr).add j = ⟨g, j, none⟩ := by unfold Addr.add; split <;> simp_all
    rw [this, cell_of_row w g j cs e fz h]
    simpa using hu⟩⟩

/-! ### a row of the call's own -/
/-- a slice type: its own number, its elements', their cells and bytes and zero -/
structure Sl (P : Program) (t e : TypeId) (size bytes : Nat) (z : Value) : Prop where
  sl : P.underlying t = some (.slice e)
  info : ∃ i, P.info? e = some i ∧ i.zero = some z ∧ i.size = size ∧ i.bytes = bytes
  cells : z.cells.size = size
  pos : 0 < size

theorem Sl.mk' {P : Program} {t e : TypeId} {size bytes : Nat} {z : Value} (h1 : P.underlying t = some (.slice e)) (h2 : (P.info? e).map (fun i => (i.zero, i.size, i.bytes)) = some (some z, size, bytes)) (h3 : z.cells.size = size) (h4 : 0 < size) : Sl P t e size bytes z := by
  obtain ⟨i, hi, a, b, c⟩ := info_parts h2
  exact ⟨h1, ⟨i, hi, a, b, c⟩, h3, h4⟩

abbrev Row (w : World) (e : TypeId) (size : Nat) (v : Value) (n : Nat) (xs : List Value) : Prop := w.ownsRow 0 e size v n xs

/-- v' grew out of v: only v's own row may have turned; v' lies in it, or in a new block -/
structure Grew (w : World) (v : Value) (w' : World) (v' : Value) : Prop where
  keeps : Keeps (fun k => v.ownBlock = some k) w w'
  new : ∀ g, v'.ownBlock = some g → v.ownBlock = some g ∨ w.heap.size ≤ g

theorem Grew.refl (w : World) (v : Value) : Grew w v w v := ⟨Keeps.refl _ _, fun _ h => .inl h⟩
theorem Grew.trans {a b c : World} {u v x : Value} (h : Grew a u b v) (k : Grew b v c x) : Grew a u c x := by
  refine ⟨h.keeps.trans k.keeps fun i hi e => ?_, fun g hg => ?_⟩
  · rcases h.new i e with h1 | h1
    · exact h1
    · omega
  · rcases k.new g hg with h1 | h1
    · exact h.new g h1
    · exact .inr (Nat.le_trans h.keeps.size h1)
theorem Grew.alloc {a w : World} {u v : Value} (h : Grew a u w v) (o : Obj) : Grew a u (w.alloc o) v := ⟨h.keeps.alloc o, h.new⟩
theorem Grew.drew {a w : World} {u v : Value} (h : Grew a u w v) : Grew a u w.drew v := ⟨h.keeps.drew, h.new⟩
theorem Grew.drewN {a w : World} {u v : Value} (h : Grew a u w v) (n : Nat) : Grew a u (w.drewN n) v := ⟨h.keeps.drewN n, h.new⟩
/-- a step that turns neither the row nor anything old but new blocks -/
theorem Grew.then_ {a b c : World} {u v : Value} {F : Nat → Prop} (h : Grew a u b v) (k : Keeps F b c) (hF : ∀ i, i < a.heap.size → F i → u.ownBlock = some i) : Grew a u c v :=
  ⟨h.keeps.trans k hF, h.new⟩

theorem Row.kept {w w' : World} {e : TypeId} {size : Nat} {v : Value} {n : Nat} {xs : List Value} {F : Nat → Prop} (h : Row w e size v n xs) (hk : Keeps F w w') (hF : ∀ g, v.ownBlock = some g → ¬ F g) : Row w' e size v n xs := by
  refine ⟨h.1, ?_⟩
  rcases h.2 with hn | ⟨g, cap, cur, rfl, hb, hgg, rest⟩
  · exact .inl hn
  · exact .inr ⟨g, cap, cur, rfl, hb, hk.heap hgg (hF g rfl), rest⟩
theorem Row.alloc {w : World} {e : TypeId} {size : Nat} {v : Value} {n : Nat} {xs : List Value} (h : Row w e size v n xs) (o : Obj) : Row (w.alloc o) e size v n xs := World.ownsRow.alloc h o
theorem Row.lt {w : World} {e : TypeId} {size : Nat} {v : Value} {n : Nat} {xs : List Value} (h : Row w e size v n xs) {g : Nat} (hg : v.ownBlock = some g) : g < w.heap.size := (World.ownsRow.lt h g hg).2
theorem Row.nil (w : World) (e : TypeId) (size : Nat) : Row w e size (.slice none 0 0) 0 [] := World.ownsRow_nil w 0 e size
theorem Row.len {w : World} {e : TypeId} {size : Nat} {v : Value} {n : Nat} {xs : List Value} (h : Row w e size v n xs) : xs.length = n * size := h.1
/-- what the value looks like -/
theorem Row.form {w : World} {e : TypeId} {size : Nat} {v : Value} {n : Nat} {xs : List Value} (h : Row w e size v n xs) : ∃ A cap, v = .slice A n cap ∧ n ≤ cap ∧ cap ≤ maxLen ∧ Src w size A n xs ∧ (∀ ad, A = some ad → v.ownBlock = some ad.block ∧ ad = ⟨ad.block, 0, none⟩) := by
  have hl := h.1
  rcases h.2 with ⟨rfl, rfl⟩ | ⟨g, cap, cur, rfl, hb, hg, hn, hm, hs, ht⟩
  · exact ⟨none, 0, rfl, Nat.le_refl _, Nat.zero_le _, ⟨hl, fun h => absurd h (by omega)⟩, fun ad h => by cases h⟩
  · refine ⟨_, cap, rfl, hn, hm, ⟨hl, fun _ => ⟨_, rfl, World.ownsRow.cells h (g := g) rfl⟩⟩, fun ad h => ?_⟩
    cases h
    exact ⟨rfl, rfl⟩
/-- its own block is a row of cells of its elements' type -/
theorem Row.typed {w : World} {e : TypeId} {size : Nat} {v : Value} {n : Nat} {xs : List Value} (h : Row w e size v n xs) {g : Nat} (hg : v.ownBlock = some g) : ∃ cur, w.heap[g]? = some (.cells cur e (0, 0)) := by
  rcases h.2 with ⟨rfl, _⟩ | ⟨g', cap, cur, rfl, hb, hgg, _⟩
  · simp [Value.ownBlock] at hg
  · simp [Value.ownBlock] at hg
    subst hg
    exact ⟨cur, hgg⟩
/-- so it is no block of another make -/
theorem Row.ne_ {w : World} {e : TypeId} {size : Nat} {v : Value} {n : Nat} {xs : List Value} (h : Row w e size v n xs) {g : Nat} {o : Obj} (ho : w.heap[g]? = some o) (hne : ∀ cur, o ≠ .cells cur e (0, 0)) : v.ownBlock ≠ some g := by
  intro hg
  obtain ⟨cur, h1⟩ := h.typed hg
  rw [ho] at h1
  exact hne cur (by injection h1)

section
variable {P : Program} {t e : TypeId} {size bytes : Nat} {z : Value}

theorem run_app (K : Sl P t e size bytes z) {w : World} {v : Value} {n : Nat} {xs : List Value} (hown : Row w e size v n xs) {A : Option Addr} {m c : Nat} {news : List Value} (hsrc : Src w size A m news) (h1 : ∀ u ∈ news, u.oneCell' = true)
    (h63 : n + m ≤ maxLen) (hbytes : (n + m) * bytes ≤ 140737488355328) (ty : TypeId) :
    ∃ v' w', (Builtin.append_ #[t, t] ty #[v, .slice A m c]).run P w = .ok v' w' ∧ Row w' e size v' (n + m) (xs ++ news) ∧ Grew w v w' v' := by
  obtain ⟨i, hi, hz, hsize, hby⟩ := K.info
  rcases Nat.eq_zero_or_pos m with h0 | hm
  · subst h0
    have hn : news = [] := List.eq_nil_of_length_eq_zero (by simpa using hsrc.1)
    subst hn
    refine ⟨v, w, ?_, by simpa using hown, Grew.refl _ _⟩
    have hrow := hown
    rcases hown.2 with ⟨rfl, rfl⟩ | ⟨g, cap, cur, rfl, _, _, hnc, _⟩
    · cases A <;> simp [Builtin.append_, run_underlying K.sl, sizeOf, typeInfo, hi, Builtin.lenOf, Builtin.firstCells, loadCells, loadCellsFrom]
    · cases A <;> simp [Builtin.append_, run_underlying K.sl, sizeOf, typeInfo, hi, Builtin.lenOf, Builtin.firstCells, hnc, storeCells, loadCells, loadCellsFrom]
  · obtain ⟨ad, rfl, hc⟩ := hsrc.2 hm
    obtain ⟨v', w', hrun, h2, h3, _, h5⟩ := run_append_own_at (P := P) w 0 t ty e i z size bytes K.sl hi hz hsize hby K.cells K.pos v n xs hown ad m c news hsrc.1 hc h1 h63 hbytes (Nat.zero_le _)
    refine ⟨v', w', hrun, h2, Keeps.of_grown h3, fun g hg => ?_⟩
    rcases h5 with h5 | h5
    · exact .inl (h5 ▸ hg)
    · rw [h5] at hg
      injection hg with hg
      exact .inr (by omega)

theorem wpList_app (K : Sl P t e size bytes z) {w : World} {ops : Array Oper} {rest : List Oper} {o : Oper} {a : Act} {Q : Exit → Act → World → Prop} (hgd : o.guard = none) (s x : Operand)
    (ho : o.op = .call { callee := .builtin .append, args := #[s, x], argTypes := #[t, t] })
    {v : Value} {n : Nat} {xs : List Value} (hown : Row w e size v n xs) (hs : a.eval s = v) {A : Option Addr} {m c : Nat} {news : List Value} (hsrc : Src w size A m news) (hx : a.eval x = .slice A m c) (h1 : ∀ u ∈ news, u.oneCell' = true)
    (h63 : n + m ≤ maxLen) (hbytes : (n + m) * bytes ≤ 140737488355328)
    (h : ∀ v' w', Row w' e size v' (n + m) (xs ++ news) → Grew w v w' v' → wpList P ops Q rest (a.put o.dst v') w') : wpList P ops Q (o :: rest) a w := by
  refine wpList_plain hgd fun K' hK' => ?_
  obtain ⟨v', w', hr, h2, h3⟩ := run_app K hown (c := c) hsrc h1 h63 hbytes o.type
  unfold Oper.wp execOp
  simp only [ho, resolve, invoke, builtin, Sem.run_bind, Sem.run_pure, Result.andThen_ok, List.map_toArray, List.map_cons, List.map_nil, hs, hx, hr]
  exact hK' _ _ (h v' w' h2 h3)

/-- a string's bytes behind a row of bytes -/
theorem run_app_string (K : Sl P t e 1 1 (.int .u8 0)) {u : TypeId} (hu : P.underlying u = some .string) {w : World} {v : Value} {n : Nat} {xs : List Value} (hown : Row w e 1 v n xs) (s : List UInt8)
    (hbytes : n + s.length ≤ 140737488355328) (ty : TypeId) :
    ∃ v' w', (Builtin.append_ #[t, u] ty #[v, .string (S s)]).run P w = .ok v' w' ∧ Row w' e 1 v' (n + s.length) (xs ++ Bs s) ∧ Grew w v w' v' := by
  obtain ⟨i, hi, hz, hsize, hby⟩ := K.info
  have hmx : n + s.length ≤ maxLen := by unfold maxLen; omega
  rcases hown.2 with ⟨rfl, rfl⟩ | ⟨g, cap, cur, rfl, hb, hg, hnc, hcm, hcs, htake⟩
  · obtain ⟨v', w', hr, h2, h3, _⟩ := Lib.run_append_own_string (P := P) w w.heap.size t u ty e i K.sl hu hi hz hsize hby (.slice none 0 0) 0 [] (World.ownsRow_nil _ _ _ _) (S s) (by simpa using hmx) (by simpa using hbytes) (Nat.le_refl _)
    have hx : xs = [] := List.eq_nil_of_length_eq_zero (by simpa using hown.1)
    subst hx
    rw [S_size, Bs_cells] at h2
    refine ⟨v', w', hr, ⟨h2.1, ?_⟩, Keeps.of_grown h3, fun g hg => .inr ?_⟩
    · rcases h2.2 with h | ⟨g, cap, cur, h1, _, h2⟩
      · exact .inl h
      · exact .inr ⟨g, cap, cur, h1, Nat.zero_le _, h2⟩
    · exact (World.ownsRow.lt h2 g hg).1
  · by_cases hroom : n + s.length ≤ cap
    · have hr := Lib.run_append_room_string (P := P) w t u ty e i K.sl hu hi hsize g n cap cur hg (S s) (by simpa using hroom) (by simp at hcs ⊢; omega)
      rw [S_size, Bs_cells] at hr
      have hlen : (xs ++ Bs s).length = (n + s.length) * 1 := by rw [List.length_append, hown.1, Bs_length]; omega
      refine ⟨_, _, hr, ⟨hlen, .inr ⟨g, cap, _, rfl, hb, setRow_heap w g cur _ e _ hg, hroom, hcm, ?_, ?_⟩⟩, Keeps.of_grown (row := some g) ⟨rfl, rfl, rfl, by simp, fun k _ hk => setRow_other w g k _ (fun e => hk (by rw [e]))⟩, fun g' hg' => .inl hg'⟩
      · simp only [List.size_toArray, List.length_append, List.length_take, List.length_drop, Array.length_toList, Bs_length]
        simp at hcs
        omega
      · have ht' : cur.toList.take n = xs := by simpa using htake
        rw [ht', ← hlen]
        exact List.take_left
    · obtain ⟨v', w', hr, h2, h3, _⟩ := Lib.run_append_own_string (P := P) w 0 t u ty e i K.sl hu hi hz hsize hby _ n xs hown (S s) (by simpa using hmx) (by simpa using hbytes) (Nat.zero_le _)
      have holds : ∀ j u, xs[j]? = some u → w.cell? ((⟨g, 0, none⟩ : Addr).add j) = some u := World.ownsRow.cells hown (g := g) rfl
      have hr2 := Lib.run_append_grow_string (P := P) w t u ty e i (.int .u8 0) K.sl hu hi hz ⟨g, 0, none⟩ n cap xs (by rw [hsize]; simpa using hown.1) holds (S s) (by simp; omega) (by simp; unfold maxLen at hmx; omega) (by rw [hby]; exact growslice_fits (by simp; omega) (by simp; omega))
      rw [hr] at hr2
      rw [S_size, Bs_cells] at h2
      refine ⟨v', w', hr, h2, Keeps.of_grown h3, fun g' hg' => .inr ?_⟩
      injection hr2 with e1 e2
      rw [e1] at hg'
      simp [Value.ownBlock] at hg'
      omega

theorem wpList_app_string (K : Sl P t e 1 1 (.int .u8 0)) {u : TypeId} (hu : P.underlying u = some .string) {w : World} {ops : Array Oper} {rest : List Oper} {o : Oper} {a : Act} {Q : Exit → Act → World → Prop} (hgd : o.guard = none) (s x : Operand)
    (ho : o.op = .call { callee := .builtin .append, args := #[s, x], argTypes := #[t, u] })
    {v : Value} {n : Nat} {xs : List Value} (hown : Row w e 1 v n xs) (hs : a.eval s = v) {l : List UInt8} (hx : a.eval x = .string (S l))
    (hbytes : n + l.length ≤ 140737488355328)
    (h : ∀ v' w', Row w' e 1 v' (n + l.length) (xs ++ Bs l) → Grew w v w' v' → wpList P ops Q rest (a.put o.dst v') w') : wpList P ops Q (o :: rest) a w := by
  refine wpList_plain hgd fun K' hK' => ?_
  obtain ⟨v', w', hr, h2, h3⟩ := run_app_string K hu hown l hbytes o.type
  unfold Oper.wp execOp
  simp only [ho, resolve, invoke, builtin, Sem.run_bind, Sem.run_pure, Result.andThen_ok, List.map_toArray, List.map_cons, List.map_nil, hs, hx, hr]
  exact hK' _ _ (h v' w' h2 h3)
end

/-! ### texts as bytes, bytes as a text -/
section
variable {P : Program}
theorem run_toBytes (w : World) {src dst e : TypeId} (hs : P.underlying src = some .string) (hd : P.underlying dst = some (.slice e)) (he : P.underlying e = some (.int .u8)) (l : List UInt8) :
    ∃ c w', (convert src dst (.string (S l))).run P w = .ok (.slice (some ⟨w.heap.size, 0, none⟩) l.length c) w' ∧ Src w' 1 (some ⟨w.heap.size, 0, none⟩) l.length (Bs l) ∧ Keeps (fun _ => False) w w' := by
  refine ⟨_, _, by rw [run_bytes_of_string w src dst e (S l) hs hd he, S_size], ?_, ((Keeps.refl _ w).drew).alloc _⟩
  refine ⟨by simp, fun _ => ⟨_, rfl, fun j u hu => ?_⟩⟩
  have hadd : (⟨w.heap.size, 0, none⟩ : Addr).add j = ⟨w.heap.size, j, none⟩ := by unfold Addr.add; split <;> simp_all
  rw [hadd, cell_of_row _ w.heap.size j _ e _ (heap_alloc_new w.drew _)]
  have hj : j < l.length := by
    have := (List.getElem?_eq_some_iff.1 hu).1
    simpa using this
  have hu' : u = B l[j] := by
    have := List.getElem?_eq_some_iff.1 hu
    obtain ⟨_, h2⟩ := this
    rw [← h2]
    simp [Bs]
  subst hu'
  simp [bytesRow, S, B, Array.getElem?_append, hj]

theorem run_ofBytes {w : World} {src dst e : TypeId} (hs : P.underlying src = some (.slice e)) (he : P.underlying e = some (.int .u8)) (hd : P.underlying dst = some .string) {A : Option Addr} {n : Nat} {l : List UInt8} (hsrc : Src w 1 A n (Bs l)) (c : Nat) :
    (convert src dst (.slice A n c)).run P w = .ok (.string (S l)) w := by
  have hn : l.length = n := by have := hsrc.1; simpa using this
  subst hn
  rcases Nat.eq_zero_or_pos l.length with h0 | hpos
  · have hl : l = [] := List.eq_nil_of_length_eq_zero h0
    subst hl
    cases A with
    | none => exact run_convert_bytes_nil w src e hs he _ c dst hd
    | some a => exact run_convert_bytes_back w src dst e a c [] hs he hd (by intro j hj; simp at hj)
  · obtain ⟨a, rfl, hc⟩ := hsrc.2 hpos
    exact run_convert_bytes_back w src dst e a c l hs he hd (fun j hj => hc j _ (by simp [Bs, B, hj]))
end

end Go.Proofs.YtecpfnobnpddaaaDoor
