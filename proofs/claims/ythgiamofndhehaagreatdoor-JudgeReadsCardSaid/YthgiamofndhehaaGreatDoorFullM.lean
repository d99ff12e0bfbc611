/- Memory in pieces, more: append onto a slice without room; a cell of a row; parts of a slice. No condition. Memory in pieces, more: a cell of a row stored. No condition. Rows of structs of some cells each, over any program: parts of lists, a row opened and shut, copy, clear, a struct stored, append of zeros. No condition. Structs compared, field by field, over any program. No condition. -/
import Derived.Test.YthgiamofndhehaaGreatDoorLow
import Derived.Laws.CopyRow
import Derived.Lib.AppendZerosOnto
import Derived.Lib.Overlaps
namespace Go.Proofs.YthgiamofndhehaaGreatDoor
section
set_option linter.unusedVariables false
open Go.RowKit

theorem Src.pre {w : World} {size : Nat} {A : Option Addr} {n : Nat} {xs : List Value} (h : Src w size A n xs) (k : Nat) (hk : k ≤ n) : Src w size A k (xs.take (k * size)) := by
  obtain ⟨h1, h2⟩ := h
  have := Nat.mul_le_mul_right size hk
  refine ⟨by simp; omega, fun h0 => ?_⟩
  obtain ⟨ad, e, h3⟩ := h2 (by omega)
  exact ⟨ad, e, fun j u hu => h3 j u (by rw [List.getElem?_take] at hu; split at hu; exact hu; cases hu)⟩
theorem Src.suf {w : World} {size : Nat} {ad : Addr} {n : Nat} {xs : List Value} (h : Src w size (some ad) n xs) (k : Nat) (hk : k ≤ n) : Src w size (some (ad.add (k * size))) (n - k) (xs.drop (k * size)) := by
  obtain ⟨h1, h2⟩ := h
  refine ⟨by rw [List.length_drop, h1, Nat.sub_mul], fun h0 => ?_⟩
  obtain ⟨ad', e, h3⟩ := h2 (by omega)
  cases e
  refine ⟨_, rfl, fun j u hu => ?_⟩
  rw [add_add]
  exact h3 _ _ (by rw [List.getElem?_drop] at hu; exact hu)
variable {P : Program} {t e : TypeId} {size bytes : Nat} {z : Value}
end

section
set_option linter.unusedVariables false
open Go.RowKit

theorem Sat.row_zero {g w : World} {L : List Asn} {e : TypeId} {size n cap : Nat} {ad : Addr} {xs : List Value} (S : Sat g w (rowA e size (.slice (some ad) n cap) n xs :: L)) : ∃ b, ad = ⟨b, 0, none⟩ := by
  rcases S.row.2 with ⟨h0, _⟩ | ⟨b', cap', cur, h0, _⟩
  · cases h0
  · injection h0 with h1 _ h2
    injection h1 with h1
    exact ⟨b', h1⟩
end

section
set_option linter.unusedVariables false
set_option linter.unusedSimpArgs false
open Go.RowKit

section
variable {α : Type} {f : α → List Value} {n : Nat}
theorem flatK_len (hn : ∀ a, (f a).length = n) (l : List α) : (l.flatMap f).length = l.length * n := by
  induction l with
  | nil => simp
  | cons b r ih => rw [List.flatMap_cons, List.length_append, ih, hn, List.length_cons, Nat.succ_mul]; omega
theorem flatK_at (hn : ∀ a, (f a).length = n) (l : List α) (k : Nat) (a : α) (h : l[k]? = some a) (j : Nat) (u : Value) (hj : (f a)[j]? = some u) : (l.flatMap f)[k * n + j]? = some u := by
  induction l generalizing k with
  | nil => simp at h
  | cons b r ih =>
    cases k with
    | zero =>
      simp only [List.getElem?_cons_zero, Option.some.injEq] at h
      subst h
      rw [List.flatMap_cons, Nat.zero_mul, Nat.zero_add, List.getElem?_append_left (List.getElem?_eq_some_iff.1 hj).1]
      exact hj
    | succ k =>
      simp only [List.getElem?_cons_succ] at h
      have := ih k h
      rw [List.flatMap_cons, List.getElem?_append_right (by rw [hn, Nat.succ_mul]; omega), ← this]
      congr 1
      rw [hn, Nat.succ_mul]
      omega
theorem flatK_take (hn : ∀ a, (f a).length = n) (l : List α) (k : Nat) : (l.flatMap f).take (k * n) = (l.take k).flatMap f := by
  induction l generalizing k with
  | nil => simp
  | cons p r ih =>
    cases k with
    | zero => simp
    | succ k =>
      rw [List.take_succ_cons, List.flatMap_cons, List.flatMap_cons, ← ih, List.take_append, hn, List.take_of_length_le (by rw [hn, Nat.succ_mul]; omega)]
      congr 2
      rw [Nat.succ_mul]
      omega
theorem flatK_drop (hn : ∀ a, (f a).length = n) (l : List α) (k : Nat) : (l.flatMap f).drop (k * n) = (l.drop k).flatMap f := by
  induction l generalizing k with
  | nil => simp
  | cons p r ih =>
    cases k with
    | zero => simp
    | succ k =>
      rw [List.drop_succ_cons, List.flatMap_cons, ← ih, List.drop_append, hn, List.drop_eq_nil_of_le (by rw [hn, Nat.succ_mul]; omega), List.nil_append]
      congr 1
      rw [Nat.succ_mul]
      omega
theorem flatK_one (h1 : ∀ a, ∀ u ∈ f a, u.oneCell' = true) (l : List α) : ∀ u ∈ l.flatMap f, u.oneCell' = true := by
  intro u hu
  obtain ⟨p, _, hp⟩ := List.mem_flatMap.1 hu
  exact h1 p u hp
end

theorem addr_blk (b n : Nat) : (⟨b, 0, none⟩ : Addr).add n = ⟨b, n, none⟩ := by unfold Addr.add; split <;> simp_all
/-- l with cs laid over it from place o on -/
def lay (l : List Value) (o : Nat) (cs : List Value) : List Value := l.take o ++ cs ++ l.drop (o + cs.length)
theorem lay_length (l : List Value) (o : Nat) (cs : List Value) (h : o + cs.length ≤ l.length) : (lay l o cs).length = l.length := by
  simp [lay]; omega
section
variable {P : Program} {g w w' : World} {L : List Asn}
theorem Sat.srcR {e : TypeId} {size n : Nat} {A : Option Addr} {cap : Nat} {xs : List Value} (S : Sat g w (rowA e size (.slice A n cap) n xs :: L)) : Src w size A n xs := by
  obtain ⟨A', cap', e', _, _, hsrc, _⟩ := S.row.form
  injection e' with e1 e2 e3
  subst e1
  exact hsrc
/-- a row, as the block that it lies in -/
theorem Sat.rowOpen {e : TypeId} {size n cap : Nat} {ad : Addr} {xs : List Value} (S : Sat g w (rowA e size (.slice (some ad) n cap) n xs :: L)) :
    ∃ (b : Nat) (cur : List Value), ad = ⟨b, 0, none⟩ ∧ n ≤ cap ∧ cap ≤ maxLen ∧ cur.length = cap * size ∧ cur.take (n * size) = xs ∧ Sat g w (cellsA b e cur.toArray :: L) := by
  obtain ⟨b, rfl⟩ := S.row_zero
  obtain ⟨h, ⟨h1, h2, c, rfl, ⟨hl, a⟩, hL⟩, m⟩ := S.mem
  rcases a with ⟨h0, _⟩ | ⟨b', cap', cur, h0, q1, q2, q3, q4, rfl⟩
  · cases h0
  · injection h0 with e1 _ e2
    injection e1 with e1
    injection e1 with e1
    subst e1 e2
    refine ⟨b, cur.toList, rfl, q1, q2, by simpa using q3, q4, S.os, S.tape, S.output, _, ⟨_, h2, c, rfl, ⟨_, rfl, by simp⟩, hL⟩, m⟩
theorem Sat.rowShut {e : TypeId} {size n cap b : Nat} {cur xs : List Value} (S : Sat g w (cellsA b e cur.toArray :: L)) (hn : n ≤ cap) (hm : cap ≤ maxLen) (hs : cur.length = cap * size) (ht : cur.take (n * size) = xs) :
    Sat g w (rowA e size (.slice (some ⟨b, 0, none⟩) n cap) n xs :: L) :=
  S.head fun _ h => by
    obtain ⟨o, rfl, rfl⟩ := h
    refine ⟨?_, .inr ⟨b, cap, _, rfl, hn, hm, by simpa using hs, by simpa using ht, rfl⟩⟩
    rw [← ht, List.length_take, hs]
    exact Nat.min_eq_left (Nat.mul_le_mul_right size hn)
/-- cells of a block -/
theorem Sat.cellL {b : Nat} {t : TypeId} {cs : List Value} (S : Sat g w (cellsA b t cs.toArray :: L)) (i : Nat) (v : Value) (hv : cs[i]? = some v) : w.cell? ⟨b, i, none⟩ = some v :=
  S.cell i v (by simpa using hv)
theorem Sat.layRow {b o : Nat} {t : TypeId} {cur cs : List Value} (S : Sat g w (cellsA b t cur.toArray :: L)) : Sat g (w.setRow b (lay cur o cs).toArray) (cellsA b t (lay cur o cs).toArray :: L) := S.setRow _
theorem run_lay {b o : Nat} {t : TypeId} {cur cs : List Value} (S : Sat g w (cellsA b t cur.toArray :: L)) (hfit : o + cs.length ≤ cur.length) (h1 : ∀ v ∈ cs, v.oneCell' = true) :
    (storeCells ⟨b, o, none⟩ cs 0).run P w = .ok () (w.setRow b (lay cur o cs).toArray) := by
  have := run_storeCells_at P b o t cs 0 cur.toArray w S.cells_get (by simpa using hfit) h1
  simpa [lay] using this

/-! ### copy -/
theorem run_copyK (w : World) (dT sT ty e : TypeId) {k : Nat} (hu : P.underlying dT = some (.slice e)) (hsz : (P.info? e).map (·.size) = some k) {b o dLen dCap : Nat} {t : TypeId} {cur : List Value} (S : Sat g w (cellsA b t cur.toArray :: L))
    {ad : Addr} {sLen sCap : Nat} (cs : List Value) (hn : cs.length = Nat.min sLen dLen * k) (hsrc : ∀ j v, cs[j]? = some v → w.cell? (ad.add j) = some v) (hfit : o + cs.length ≤ cur.length) (h1 : ∀ v ∈ cs, v.oneCell' = true) :
    (Builtin.copy_ #[dT, sT] ty #[.slice (some ⟨b, o, none⟩) dLen dCap, .slice (some ad) sLen sCap]).run P w = .ok (goInt (Nat.min sLen dLen)) (w.setRow b (lay cur o cs).toArray) := by
  have hst := run_lay (P := P) S hfit h1
  have hl := run_loadCells_list (P := P) w ad cs hsrc
  cases hq : P.info? e with
  | none => simp [hq] at hsz
  | some i =>
    have hi : i.size = k := by simpa [hq] using hsz
    simp [Builtin.copy_, run_underlying hu, Builtin.lenOf, Builtin.firstCells, sizeOf, typeInfo, hq, hi, ← hn, hl, hst]
theorem wpList_scopy {ops : Array Oper} {rest : List Oper} {o : Oper} {a : Go.Act} {Q : Exit → Go.Act → World → Prop} (hgd : o.guard = none) (d s : Operand) (dT sT e : TypeId)
    (ho : o.op = .call { callee := .builtin .copy, args := #[d, s], argTypes := #[dT, sT] }) {k : Nat} (hu : P.underlying dT = some (.slice e)) (hsz : (P.info? e).map (·.size) = some k)
    {b off dLen dCap : Nat} {t : TypeId} {cur : List Value} (S : Sat g w (cellsA b t cur.toArray :: L)) {dd ad : Addr} {sLen sCap : Nat} (hdd : dd = ⟨b, off, none⟩) (hd : a.eval d = .slice (some dd) dLen dCap) (hs : a.eval s = .slice (some ad) sLen sCap)
    (cs : List Value) (hn : cs.length = Nat.min sLen dLen * k) (hsrc : ∀ j v, cs[j]? = some v → w.cell? (ad.add j) = some v) (hfit : off + cs.length ≤ cur.length) (h1 : ∀ v ∈ cs, v.oneCell' = true)
    (h : ∀ w', Sat g w' (cellsA b t (lay cur off cs).toArray :: L) → wpList P ops Q rest (a.put o.dst (goInt (Nat.min sLen dLen))) w') : wpList P ops Q (o :: rest) a w := by
  subst hdd
  refine wpList_plain hgd fun K hK => ?_
  have hr := run_copyK (P := P) w dT sT o.type e hu hsz (dCap := dCap) (sCap := sCap) S cs hn hsrc hfit h1
  unfold Oper.wp execOp
  simp only [ho, resolve, invoke, builtin, Sem.run_bind, Sem.run_pure, Result.andThen_ok, List.map_toArray, List.map_cons, List.map_nil, hd, hs, hr]
  exact hK _ _ (h _ S.layRow)
theorem step_scopy {ops : Array Oper} {o : Oper} {a : Go.Act} {K : Go.Act → World → Prop} {Q : Exit → Go.Act → World → Prop} {E : Prop} (hgd : o.guard = none) (d s : Operand) (dT sT e : TypeId)
    (ho : o.op = .call { callee := .builtin .copy, args := #[d, s], argTypes := #[dT, sT] }) {k : Nat} (hu : P.underlying dT = some (.slice e)) (hsz : (P.info? e).map (·.size) = some k)
    {b off dLen dCap : Nat} {t : TypeId} {cur : List Value} (S : Sat g w (cellsA b t cur.toArray :: L)) {dd ad : Addr} {sLen sCap : Nat} (hdd : dd = ⟨b, off, none⟩) (hd : a.eval d = .slice (some dd) dLen dCap) (hs : a.eval s = .slice (some ad) sLen sCap)
    (cs : List Value) (hn : cs.length = Nat.min sLen dLen * k) (hsrc : ∀ j v, cs[j]? = some v → w.cell? (ad.add j) = some v) (hfit : off + cs.length ≤ cur.length) (h1 : ∀ v ∈ cs, v.oneCell' = true)
    (h : ∀ w', Sat g w' (cellsA b t (lay cur off cs).toArray :: L) → K (a.put o.dst (goInt (Nat.min sLen dLen))) w') : if Region.wanted o (yielded ops a.tmps) = true then Oper.wp P o a w K Q else E := by
  subst hdd
  have hw : Region.wanted o (yielded ops a.tmps) = true := by simp [Region.wanted, hgd]
  rw [if_pos hw]
  have hr := run_copyK (P := P) w dT sT o.type e hu hsz (dCap := dCap) (sCap := sCap) S cs hn hsrc hfit h1
  unfold Oper.wp execOp
  simp only [ho, resolve, invoke, builtin, Sem.run_bind, Sem.run_pure, Result.andThen_ok, List.map_toArray, List.map_cons, List.map_nil, hd, hs, hr]
  exact h _ S.layRow

/-! ### clear -/
theorem zeroCells_one {zs : Array Value} (h : ∀ v ∈ zs, v.oneCell' = true) (n : Nat) (h0 : 0 < zs.size) : ∀ v ∈ (Builtin.zeroCells zs n).toList, v.oneCell' = true := by
  intro v hv
  simp only [Builtin.zeroCells, Array.toList_map, List.mem_map] at hv
  obtain ⟨i, _, rfl⟩ := hv
  have hi : i % zs.size < zs.size := Nat.mod_lt _ h0
  rw [getElem!_pos zs _ hi]
  exact h _ (Array.getElem_mem hi)
theorem wpList_sclear {t e : TypeId} {size bytes : Nat} {z : Value} (K0 : Sl P t e size bytes z) (hz1 : ∀ v ∈ z.cells, v.oneCell' = true) {ops : Array Oper} {rest : List Oper} {o : Oper} {a : Go.Act} {Q : Exit → Go.Act → World → Prop} (hgd : o.guard = none) (x : Operand)
    (ho : o.op = .call { callee := .builtin .clear, args := #[x], argTypes := #[t] })
    {b off m c : Nat} {tb : TypeId} {cur : List Value} (S : Sat g w (cellsA b tb cur.toArray :: L)) {dd : Addr} (hdd : dd = ⟨b, off, none⟩) (hx : a.eval x = .slice (some dd) m c) (hm : 0 < m) (hfit : off + m * size ≤ cur.length)
    (h : ∀ w' (zs : List Value), zs.length = m * size → Sat g w' (cellsA b tb (lay cur off zs).toArray :: L) → wpList P ops Q rest (a.put o.dst (.tuple #[])) w') : wpList P ops Q (o :: rest) a w := by
  subst hdd
  refine wpList_plain hgd fun K hK => ?_
  obtain ⟨i, hi, hz, hsize, hby⟩ := K0.info
  have hl : (Builtin.zeroCells z.cells m).toList.length = m * size := by rw [Array.length_toList, size_zeroCells, K0.cells]
  have hst := run_lay (P := P) (o := off) (cs := (Builtin.zeroCells z.cells m).toList) S (by rw [hl]; exact hfit) (zeroCells_one hz1 m (by rw [K0.cells]; exact K0.pos))
  have hr : (Builtin.clear_ #[t] o.type #[.slice (some ⟨b, off, none⟩) m c]).run P w = .ok (.tuple #[]) (w.setRow b (lay cur off (Builtin.zeroCells z.cells m).toList).toArray) := by
    obtain ⟨m, rfl⟩ : ∃ j, m = j + 1 := ⟨m - 1, by omega⟩
    simp [Builtin.clear_, run_underlying K0.sl, zeroValue, typeInfo, hi, hz, hst]
  unfold Oper.wp execOp
  simp only [ho, resolve, invoke, builtin, Sem.run_bind, Sem.run_pure, Result.andThen_ok, List.map_toArray, List.map_cons, List.map_nil, hx, hr]
  exact hK _ _ (h _ _ hl S.layRow)

/-! ### a struct stored into a row -/
theorem wpList_slay {ops : Array Oper} {rest : List Oper} {o : Oper} {a : Go.Act} {Q : Exit → Go.Act → World → Prop} (hgd : o.guard = none) (ty : TypeId) (x y : Operand) (ho : o.op = .store ty x y)
    {b off : Nat} {tb : TypeId} {cur : List Value} (S : Sat g w (cellsA b tb cur.toArray :: L)) {dd : Addr} (cs : List Value) (hdd : dd = ⟨b, off, none⟩) (hx : a.eval x = .pointer (some dd)) (hy : a.eval y = .agg cs.toArray)
    (hsz : (P.info? ty).map (·.size) = some cs.length) (hfit : off + cs.length ≤ cur.length) (h1 : ∀ v ∈ cs, v.oneCell' = true)
    (h : ∀ w', Sat g w' (cellsA b tb (lay cur off cs).toArray :: L) → wpList P ops Q rest (a.put o.dst undef) w') : wpList P ops Q (o :: rest) a w := by
  subst hdd
  refine wpList_plain hgd fun K hK => ?_
  have hst := run_lay (P := P) (o := off) (cs := cs) S hfit h1
  have hr : (storeVar ty ⟨b, off, none⟩ (.agg cs.toArray)).run P w = .ok () (w.setRow b (lay cur off cs).toArray) := by
    cases hq : P.info? ty with
    | none => simp [hq] at hsz
    | some i =>
      have hs : cs.length = i.size := by simp [hq] at hsz; omega
      simp [storeVar, sizeOf, typeInfo, hq, Value.cells, hs, hst]
  unfold Oper.wp execOp
  simp only [ho, hx, hy, Instr.storeAt, Instr.sureAddr, Sem.run_bind, Sem.run_pure, Result.andThen_ok, hr]
  exact hK _ _ (h _ S.layRow)
end
end

section
set_option linter.unusedVariables false
set_option linter.unusedSimpArgs false
open Go.RowKit

end

end Go.Proofs.YthgiamofndhehaaGreatDoor
