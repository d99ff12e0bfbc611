/- Memory in pieces, more: append onto a slice without room; a cell of a row; parts of a slice. No condition. Memory in pieces, more: a cell of a row stored. No condition. Rows of structs of some cells each, over any program: parts of lists, a row opened and shut, copy, clear, a struct stored, append of zeros. No condition. Structs compared, field by field, over any program. No condition. -/
import Derived.Test.YtanlobdidjednaaGreatDoorLow
import Derived.Laws.CopyRow
import Derived.Lib.AppendZerosOnto
import Derived.Lib.Overlaps
namespace Go.Proofs.YtanlobdidjednaaGreatDoor
section
set_option linter.unusedVariables false
open Go.RowKit

theorem Src.pre {w : World} {size : Nat} {A : Option Addr} {n : Nat} {xs : List Value} (h : Src w size A n xs) (k : Nat) (hk : k ≤ n) : Src w size A k (xs.take (k * size)) := by
  obtain ⟨h1, h2⟩ := h
  have := Nat.mul_le_mul_right size hk
  refine ⟨by simp; omega, fun h0 => ?_⟩
  obtain ⟨ad, e, h3⟩ := h2 (by omega)
  exact ⟨ad, e, fun j u hu => h3 j u (by rw [List.getElem?_take] at hu; split at hu; exact hu; cases hu)⟩
theorem Src.suf {w : World} {size : Nat} {ad : Addr} {n : Nat} {xs : List Value} (h : Src w size (some ad) n xs) (k : Nat) (hk : k ≤ n) : Src w size (some (ad.add (k * size))) (n - k) (xs.drop (k * size)) := by
  obtain ⟨h1, h2⟩ := h
  refine ⟨by rw [List.length_drop, h1, Nat.sub_mul], fun h0 => ?_⟩
  obtain ⟨ad', e, h3⟩ := h2 (by omega)
  cases e
  refine ⟨_, rfl, fun j u hu => ?_⟩
  rw [add_add]
  exact h3 _ _ (by rw [List.getElem?_drop] at hu; exact hu)
theorem Src.empty {w : World} {size : Nat} {A : Option Addr} : Src w size A 0 [] := ⟨by simp, fun h => by omega⟩

variable {P : Program} {t e : TypeId} {size bytes : Nat} {z : Value}
theorem run_full (K : Sl P t e size bytes z) {w : World} {B : Option Addr} {n : Nat} {xs : List Value} (hB : Src w size B n xs) (hnil : B = none → n = 0) {A : Option Addr} {m c : Nat} {news : List Value} (hsrc : Src w size A m news) (hm : 0 < m)
    (h63 : n + m ≤ maxLen) (hbytes : (n + m) * bytes ≤ 140737488355328) (ty : TypeId) :
    ∃ v' w', (Builtin.append_ #[t, t] ty #[.slice B n n, .slice A m c]).run P w = .ok v' w' ∧ w'.ownsRow w.heap.size e size v' (n + m) (xs ++ news) ∧ Keeps (fun _ => False) w w' := by
  obtain ⟨i, hi, hz, rfl, rfl⟩ := K.info
  obtain ⟨ad, rfl, hc⟩ := hsrc.2 hm
  have hlx := hB.1
  have hln := hsrc.1
  have hlen : (xs ++ news).length = (n + m) * i.size := by rw [List.length_append, hlx, hln, Nat.add_mul]
  have hsmall : n + m ≤ 9223372036854775807 := by simp only [maxLen] at h63; omega
  have grown : ∀ (old : Nat), old < n + m →
      (w.drew.alloc (.cells (xs.toArray ++ news.toArray ++ Builtin.zeroCells z.cells (grownCap w (n + m) old e - (n + m))) e)).ownsRow w.heap.size e i.size
        (.slice (some ⟨w.heap.size, 0, none⟩) (n + m) (grownCap w (n + m) old e)) (n + m) (xs ++ news) := by
    intro old ho
    have hge := grownCap_ge w (n + m) old e
    have hcm : grownCap w (n + m) old e ≤ maxLen := grownCap_le_maxLen w (n + m) old e h63
    refine ⟨hlen, .inr ⟨w.heap.size, _, _, rfl, Nat.le_refl _, heap_alloc_new w.drew _, hge, hcm, ?_, ?_⟩⟩
    · simp only [Array.size_append, List.size_toArray, size_zeroCells, K.cells, hlx, hln, ← Nat.add_mul]
      congr 1
      omega
    · simp only [Array.toList_append, List.append_assoc]
      rw [← List.append_assoc, ← hlen]
      exact List.take_left
  cases B with
  | none =>
    obtain rfl := hnil rfl
    have hx : xs = [] := List.eq_nil_of_length_eq_zero (by simpa using hlx)
    subst hx
    have hr := run_append_nil (P := P) w t ty e i z K.sl hi hz ad m c news hln hc hm (by omega) (by simp only [Nat.zero_add] at hbytes; omega)
    have hgr := grown 0 (by omega)
    simp only [Nat.zero_add, List.nil_append, Array.empty_append] at hgr ⊢
    exact ⟨_, _, hr, hgr, ((Keeps.refl _ w).drew).alloc _⟩
  | some b =>
    have holds : ∀ j u, xs[j]? = some u → w.cell? (b.add j) = some u := by
      intro j u hu
      have hj := (List.getElem?_eq_some_iff.1 hu).1
      obtain ⟨b', e', h3⟩ := hB.2 (by
        rcases Nat.eq_zero_or_pos n with h0 | h0
        · subst h0; simp at hlx; subst hlx; simp at hj
        · exact h0)
      cases e'
      exact h3 j u hu
    have hr := run_append_grow (P := P) w t ty e i z K.sl hi hz b n n xs hlx holds ad m c news hln hc (by omega) (by omega) (growslice_fits (by omega) hbytes)
    exact ⟨_, _, hr, grown n (by omega), ((Keeps.refl _ w).drew).alloc _⟩

theorem Sat.ownRow {g w w' : World} {L : List Asn} {n : Nat} {v : Value} {xs : List Value} (S : Sat g w L) (hk : Keeps (fun _ => False) w w') (hr : w'.ownsRow w.heap.size e size v n xs) : Sat g w' (rowA e size v n xs :: L) := by
  obtain ⟨hl, hr⟩ := hr
  rcases hr with ⟨rfl, rfl⟩ | ⟨b, cap, cur, rfl, hb, hg, q1, q2, q3, q4⟩
  · have := (S.keep hk).nilRow e size
    have h0 : xs = [] := by simpa using hl
    subst h0
    exact this
  · exact S.new hk (hone b (.cells cur e (0, 0)) true) ⟨hl, .inr ⟨b, cap, cur, rfl, q1, q2, q3, q4, rfl⟩⟩ (hone_mem hg) (fun k hk => by unfold hone; rw [if_neg (by omega)])

/-- append onto a slice without room, as one step of a region that draws -/
theorem step_full (K0 : Sl P t e size bytes z) {ops : Array Oper} {o : Oper} {a : Act} {g w : World} {L : List Asn} {K : Act → World → Prop} {Q : Exit → Act → World → Prop} {E : Prop}
    (hg : o.guard = none) (s x : Operand) (hop : o.op = Op.call { callee := Callee.builtin Builtin.append, args := #[s, x], argTypes := #[t, t] })
    {B : Option Addr} {n : Nat} {xs : List Value} (S : Sat g w L) (hB : Src w size B n xs) (hnil : B = none → n = 0) (hs : a.eval s = .slice B n n) {A : Option Addr} {m c : Nat} {news : List Value} (hsrc : Src w size A m news) (hm : 0 < m) (hx : a.eval x = .slice A m c)
    (h63 : n + m ≤ maxLen) (hbytes : (n + m) * bytes ≤ 140737488355328)
    (hK : ∀ A' c' w', Sat g w' (rowA e size (.slice A' (n + m) c') (n + m) (xs ++ news) :: L) → K (a.put o.dst (.slice A' (n + m) c')) w') :
    if Region.wanted o (yielded ops a.tmps) = true then Oper.wp P o a w K Q else E := by
  have hw : Region.wanted o (yielded ops a.tmps) = true := by simp [Region.wanted, hg]
  rw [if_pos hw]
  obtain ⟨v', w', hr, h2, h3⟩ := run_full K0 hB hnil (c := c) hsrc hm h63 hbytes o.type
  unfold Oper.wp execOp
  simp only [hop, resolve, invoke, builtin, Sem.run_bind, Sem.run_pure, Result.andThen_ok, List.map_toArray, List.map_cons, List.map_nil, hs, hx, hr]
  have S' := S.ownRow h3 h2
  obtain ⟨A', c', e', _⟩ := Row.form S'.row
  subst e'
  exact hK _ _ _ S'
end

section
set_option linter.unusedVariables false
open Go.RowKit

theorem Sat.rowSet {g w : World} {L : List Asn} {e : TypeId} {size n b cap : Nat} {xs : List Value} (S : Sat g w (rowA e size (.slice (some ⟨b, 0, none⟩) n cap) n xs :: L)) (i : Nat) (hi : i < xs.length) (v : Value) :
    Sat g (w.setCell ⟨b, i, none⟩ v) (rowA e size (.slice (some ⟨b, 0, none⟩) n cap) n (xs.set i v) :: L) :=
  S.step (F := fun k => k = b) ((Keeps.refl (fun k => k = b) w).setCell (p := ⟨b, i, none⟩) (fun _ => rfl) v) fun h a m => by
    obtain ⟨hl, a⟩ := a
    rcases a with ⟨h0, _⟩ | ⟨b', cap', cur, h0, q1, q2, q3, q4, rfl⟩
    · cases h0
    · injection h0 with h1 _ h2
      injection h1 with h1
      injection h1 with h1
      subst h1 h2
      have hb : w.heap[b]? = some (.cells cur e (0, 0)) := m b _ true (by simp [hone])
      refine ⟨fun k _ hk => ⟨_, by simp [hone, hk]; rfl⟩, hone b (.cells (cur.setIfInBounds i v) e (0, 0)) true, ⟨by simpa using hl, .inr ⟨b, cap, _, rfl, q1, q2, by simpa using q3, ?_, rfl⟩⟩, hone_mem (by simp [World.setCell, Array.getElem?_modify, hb]), fun k _ => ?_⟩
      · rw [Array.toList_setIfInBounds, ← q4, List.take_set]
      · by_cases hkb : k = b
        · exact .inr (.inr ⟨_, by simp [hone, hkb]; rfl⟩)
        · exact .inl (by simp [hone, hkb])
theorem Sat.row_fz {g w : World} {L : List Asn} {e : TypeId} {size n b cap : Nat} {xs : List Value} (S : Sat g w (rowA e size (.slice (some ⟨b, 0, none⟩) n cap) n xs :: L)) (i : Nat) : w.frozen? ⟨b, i, none⟩ = false := by
  rcases S.row.2 with ⟨h0, _⟩ | ⟨b', cap', cur, h0, _, hb, _⟩
  · cases h0
  · injection h0 with h1 _ h2
    injection h1 with h1
    injection h1 with h1
    subst h1
    simp [World.frozen?, hb]
theorem Sat.row_at {g w : World} {L : List Asn} {e : TypeId} {size n b cap : Nat} {xs : List Value} (S : Sat g w (rowA e size (.slice (some ⟨b, 0, none⟩) n cap) n xs :: L)) (i : Nat) (v : Value) (hv : xs[i]? = some v) : w.cell? ⟨b, i, none⟩ = some v := by
  have h := World.ownsRow.cells S.row (g := b) rfl i v hv
  have hadd : (⟨b, 0, none⟩ : Addr).add i = ⟨b, i, none⟩ := by unfold Addr.add; split <;> simp_all
  rw [hadd] at h
  exact h
theorem Sat.row_zero {g w : World} {L : List Asn} {e : TypeId} {size n cap : Nat} {ad : Addr} {xs : List Value} (S : Sat g w (rowA e size (.slice (some ad) n cap) n xs :: L)) : ∃ b, ad = ⟨b, 0, none⟩ := by
  rcases S.row.2 with ⟨h0, _⟩ | ⟨b', cap', cur, h0, _⟩
  · cases h0
  · injection h0 with h1 _ h2
    injection h1 with h1
    exact ⟨b', h1⟩
end

section
set_option linter.unusedVariables false
set_option linter.unusedSimpArgs false
open Go.RowKit

section
variable {α : Type} {f : α → List Value} {n : Nat}
theorem flatK_len (hn : ∀ a, (f a).length = n) (l : List α) : (l.flatMap f).length = l.length * n := by
  induction l with
  | nil => simp
  | cons b r ih => rw [List.flatMap_cons, List.length_append, ih, hn, List.length_cons, Nat.succ_mul]; omega
theorem flatK_at (hn : ∀ a, (f a).length = n) (l : List α) (k : Nat) (a : α) (h : l[k]? = some a) (j : Nat) (u : Value) (hj : (f a)[j]? = some u) : (l.flatMap f)[k * n + j]? = some u := by
  induction l generalizing k with
  | nil => simp at h
  | cons b r ih =>
    cases k with
    | zero =>
      simp only [List.getElem?_cons_zero, Option.some.injEq] at h
      subst h
      rw [List.flatMap_cons, Nat.zero_mul, Nat.zero_add, List.getElem?_append_left (List.getElem?_eq_some_iff.1 hj).1]
      exact hj
    | succ k =>
      simp only [List.getElem?_cons_succ] at h
      have := ih k h
      rw [List.flatMap_cons, List.getElem?_append_right (by rw [hn, Nat.succ_mul]; omega), ← this]
      congr 1
      rw [hn, Nat.succ_mul]
      omega
theorem flatK_take (hn : ∀ a, (f a).length = n) (l : List α) (k : Nat) : (l.flatMap f).take (k * n) = (l.take k).flatMap f := by
  induction l generalizing k with
  | nil => simp
  | cons p r ih =>
    cases k with
    | zero => simp
    | succ k =>
      rw [List.take_succ_cons, List.flatMap_cons, List.flatMap_cons, ← ih, List.take_append, hn, List.take_of_length_le (by rw [hn, Nat.succ_mul]; omega)]
      congr 2
      rw [Nat.succ_mul]
      omega
theorem flatK_drop (hn : ∀ a, (f a).length = n) (l : List α) (k : Nat) : (l.flatMap f).drop (k * n) = (l.drop k).flatMap f := by
  induction l generalizing k with
  | nil => simp
  | cons p r ih =>
    cases k with
    | zero => simp
    | succ k =>
      rw [List.drop_succ_cons, List.flatMap_cons, ← ih, List.drop_append, hn, List.drop_eq_nil_of_le (by rw [hn, Nat.succ_mul]; omega), List.nil_append]
      congr 1
      rw [Nat.succ_mul]
      omega
theorem flatK_one (h1 : ∀ a, ∀ u ∈ f a, u.oneCell' = true) (l : List α) : ∀ u ∈ l.flatMap f, u.oneCell' = true := by
  intro u hu
  obtain ⟨p, _, hp⟩ := List.mem_flatMap.1 hu
  exact h1 p u hp
end

theorem addr_blk (b n : Nat) : (⟨b, 0, none⟩ : Addr).add n = ⟨b, n, none⟩ := by unfold Addr.add; split <;> simp_all
/-- l with cs laid over it from place o on -/
def lay (l : List Value) (o : Nat) (cs : List Value) : List Value := l.take o ++ cs ++ l.drop (o + cs.length)
theorem lay_length (l : List Value) (o : Nat) (cs : List Value) (h : o + cs.length ≤ l.length) : (lay l o cs).length = l.length := by
  simp [lay]; omega
theorem lay_take (l : List Value) (o : Nat) (cs : List Value) (k : Nat) (h1 : o + cs.length ≤ k) (h2 : k ≤ l.length) : (lay l o cs).take k = lay (l.take k) o cs := by
  unfold lay
  rw [List.append_assoc, List.append_assoc, List.take_append, List.take_of_length_le (by simp; omega), List.take_append, List.take_of_length_le (l := cs) (by simp; omega), List.take_take, Nat.min_eq_left (by omega), List.drop_take]
  congr 3
  simp
  omega

section
variable {P : Program} {g w w' : World} {L : List Asn}
theorem Sat.srcR {e : TypeId} {size n : Nat} {A : Option Addr} {cap : Nat} {xs : List Value} (S : Sat g w (rowA e size (.slice A n cap) n xs :: L)) : Src w size A n xs := by
  obtain ⟨A', cap', e', _, _, hsrc, _⟩ := S.row.form
  injection e' with e1 e2 e3
  subst e1
  exact hsrc
theorem Sat.newR {e : TypeId} {size n : Nat} {v : Value} {xs : List Value} (S : Sat g w L) (hk : Keeps (fun _ => False) w w') (hr : w'.ownsRow w.heap.size e size v n xs) : Sat g w' (rowA e size v n xs :: L) := by
  obtain ⟨hl, hr⟩ := hr
  rcases hr with ⟨rfl, rfl⟩ | ⟨b, cap, cur, rfl, hb, hg, q1, q2, q3, q4⟩
  · have := (S.keep hk).nilRow e size
    have h0 : xs = [] := by simpa using hl
    subst h0
    exact this
  · exact S.new hk (hone b (.cells cur e (0, 0)) true) ⟨hl, .inr ⟨b, cap, cur, rfl, q1, q2, q3, q4, rfl⟩⟩ (hone_mem hg) (fun k hk => by unfold hone; rw [if_neg (by omega)])
/-- a row, as the block that it lies in -/
theorem Sat.rowOpen {e : TypeId} {size n cap : Nat} {ad : Addr} {xs : List Value} (S : Sat g w (rowA e size (.slice (some ad) n cap) n xs :: L)) :
    ∃ (b : Nat) (cur : List Value), ad = ⟨b, 0, none⟩ ∧ n ≤ cap ∧ cap ≤ maxLen ∧ cur.length = cap * size ∧ cur.take (n * size) = xs ∧ Sat g w (cellsA b e cur.toArray :: L) := by
  obtain ⟨b, rfl⟩ := S.row_zero
  obtain ⟨h, ⟨h1, h2, c, rfl, ⟨hl, a⟩, hL⟩, m⟩ := S.mem
  rcases a with ⟨h0, _⟩ | ⟨b', cap', cur, h0, q1, q2, q3, q4, rfl⟩
  · cases h0
  · injection h0 with e1 _ e2
    injection e1 with e1
    injection e1 with e1
    subst e1 e2
    refine ⟨b, cur.toList, rfl, q1, q2, by simpa using q3, q4, S.os, S.tape, S.output, _, ⟨_, h2, c, rfl, ⟨_, rfl, by simp⟩, hL⟩, m⟩
theorem Sat.rowShut {e : TypeId} {size n cap b : Nat} {cur xs : List Value} (S : Sat g w (cellsA b e cur.toArray :: L)) (hn : n ≤ cap) (hm : cap ≤ maxLen) (hs : cur.length = cap * size) (ht : cur.take (n * size) = xs) :
    Sat g w (rowA e size (.slice (some ⟨b, 0, none⟩) n cap) n xs :: L) :=
  S.head fun _ h => by
    obtain ⟨o, rfl, rfl⟩ := h
    refine ⟨?_, .inr ⟨b, cap, _, rfl, hn, hm, by simpa using hs, by simpa using ht, rfl⟩⟩
    rw [← ht, List.length_take, hs]
    exact Nat.min_eq_left (Nat.mul_le_mul_right size hn)
/-- cells of a block -/
theorem Sat.cellL {b : Nat} {t : TypeId} {cs : List Value} (S : Sat g w (cellsA b t cs.toArray :: L)) (i : Nat) (v : Value) (hv : cs[i]? = some v) : w.cell? ⟨b, i, none⟩ = some v :=
  S.cell i v (by simpa using hv)
theorem Sat.layRow {b o : Nat} {t : TypeId} {cur cs : List Value} (S : Sat g w (cellsA b t cur.toArray :: L)) : Sat g (w.setRow b (lay cur o cs).toArray) (cellsA b t (lay cur o cs).toArray :: L) := S.setRow _
theorem run_lay {b o : Nat} {t : TypeId} {cur cs : List Value} (S : Sat g w (cellsA b t cur.toArray :: L)) (hfit : o + cs.length ≤ cur.length) (h1 : ∀ v ∈ cs, v.oneCell' = true) :
    (storeCells ⟨b, o, none⟩ cs 0).run P w = .ok () (w.setRow b (lay cur o cs).toArray) := by
  have := run_storeCells_at P b o t cs 0 cur.toArray w S.cells_get (by simpa using hfit) h1
  simpa [lay] using this

/-! ### copy -/
theorem run_copyK (w : World) (dT sT ty e : TypeId) {k : Nat} (hu : P.underlying dT = some (.slice e)) (hsz : (P.info? e).map (·.size) = some k) {b o dLen dCap : Nat} {t : TypeId} {cur : List Value} (S : Sat g w (cellsA b t cur.toArray :: L))
    {ad : Addr} {sLen sCap : Nat} (cs : List Value) (hn : cs.length = Nat.min sLen dLen * k) (hsrc : ∀ j v, cs[j]? = some v → w.cell? (ad.add j) = some v) (hfit : o + cs.length ≤ cur.length) (h1 : ∀ v ∈ cs, v.oneCell' = true) :
    (Builtin.copy_ #[dT, sT] ty #[.slice (some ⟨b, o, none⟩) dLen dCap, .slice (some ad) sLen sCap]).run P w = .ok (goInt (Nat.min sLen dLen)) (w.setRow b (lay cur o cs).toArray) := by
  have hst := run_lay (P := P) S hfit h1
  have hl := run_loadCells_list (P := P) w ad cs hsrc
  cases hq : P.info? e with
  | none => simp [hq] at hsz
  | some i =>
    have hi : i.size = k := by simpa [hq] using hsz
    simp [Builtin.copy_, run_underlying hu, Builtin.lenOf, Builtin.firstCells, sizeOf, typeInfo, hq, hi, ← hn, hl, hst]
theorem wpList_scopy {ops : Array Oper} {rest : List Oper} {o : Oper} {a : Go.Act} {Q : Exit → Go.Act → World → Prop} (hgd : o.guard = none) (d s : Operand) (dT sT e : TypeId)
    (ho : o.op = .call { callee := .builtin .copy, args := #[d, s], argTypes := #[dT, sT] }) {k : Nat} (hu : P.underlying dT = some (.slice e)) (hsz : (P.info? e).map (·.size) = some k)
    {b off dLen dCap : Nat} {t : TypeId} {cur : List Value} (S : Sat g w (cellsA b t cur.toArray :: L)) {dd ad : Addr} {sLen sCap : Nat} (hdd : dd = ⟨b, off, none⟩) (hd : a.eval d = .slice (some dd) dLen dCap) (hs : a.eval s = .slice (some ad) sLen sCap)
    (cs : List Value) (hn : cs.length = Nat.min sLen dLen * k) (hsrc : ∀ j v, cs[j]? = some v → w.cell? (ad.add j) = some v) (hfit : off + cs.length ≤ cur.length) (h1 : ∀ v ∈ cs, v.oneCell' = true)
    (h : ∀ w', Sat g w' (cellsA b t (lay cur off cs).toArray :: L) → wpList P ops Q rest (a.put o.dst (goInt (Nat.min sLen dLen))) w') : wpList P ops Q (o :: rest) a w := by
  subst hdd
  refine wpList_plain hgd fun K hK => ?_
  have hr := run_copyK (P := P) w dT sT o.type e hu hsz (dCap := dCap) (sCap := sCap) S cs hn hsrc hfit h1
  unfold Oper.wp execOp
  simp only [ho, resolve, invoke, builtin, Sem.run_bind, Sem.run_pure, Result.andThen_ok, List.map_toArray, List.map_cons, List.map_nil, hd, hs, hr]
  exact hK _ _ (h _ S.layRow)
theorem step_scopy {ops : Array Oper} {o : Oper} {a : Go.Act} {K : Go.Act → World → Prop} {Q : Exit → Go.Act → World → Prop} {E : Prop} (hgd : o.guard = none) (d s : Operand) (dT sT e : TypeId)
    (ho : o.op = .call { callee := .builtin .copy, args := #[d, s], argTypes := #[dT, sT] }) {k : Nat} (hu : P.underlying dT = some (.slice e)) (hsz : (P.info? e).map (·.size) = some k)
    {b off dLen dCap : Nat} {t : TypeId} {cur : List Value} (S : Sat g w (cellsA b t cur.toArray :: L)) {dd ad : Addr} {sLen sCap : Nat} (hdd : dd = ⟨b, off, none⟩) (hd : a.eval d = .slice (some dd) dLen dCap) (hs : a.eval s = .slice (some ad) sLen sCap)
    (cs : List Value) (hn : cs.length = Nat.min sLen dLen * k) (hsrc : ∀ j v, cs[j]? = some v → w.cell? (ad.add j) = some v) (hfit : off + cs.length ≤ cur.length) (h1 : ∀ v ∈ cs, v.oneCell' = true)
    (h : ∀ w', Sat g w' (cellsA b t (lay cur off cs).toArray :: L) → K (a.put o.dst (goInt (Nat.min sLen dLen))) w') : if Region.wanted o (yielded ops a.tmps) = true then Oper.wp P o a w K Q else E := by
  subst hdd
  have hw : Region.wanted o (yielded ops a.tmps) = true := by simp [Region.wanted, hgd]
  rw [if_pos hw]
  have hr := run_copyK (P := P) w dT sT o.type e hu hsz (dCap := dCap) (sCap := sCap) S cs hn hsrc hfit h1
  unfold Oper.wp execOp
  simp only [ho, resolve, invoke, builtin, Sem.run_bind, Sem.run_pure, Result.andThen_ok, List.map_toArray, List.map_cons, List.map_nil, hd, hs, hr]
  exact h _ S.layRow

/-! ### clear -/
theorem zeroCells_one {zs : Array Value} (h : ∀ v ∈ zs, v.oneCell' = true) (n : Nat) (h0 : 0 < zs.size) : ∀ v ∈ (Builtin.zeroCells zs n).toList, v.oneCell' = true := by
  intro v hv
  simp only [Builtin.zeroCells, Array.toList_map, List.mem_map] at hv
  obtain ⟨i, _, rfl⟩ := hv
  have hi : i % zs.size < zs.size := Nat.mod_lt _ h0
  rw [getElem!_pos zs _ hi]
  exact h _ (Array.getElem_mem hi)
theorem wpList_sclear {t e : TypeId} {size bytes : Nat} {z : Value} (K0 : Sl P t e size bytes z) (hz1 : ∀ v ∈ z.cells, v.oneCell' = true) {ops : Array Oper} {rest : List Oper} {o : Oper} {a : Go.Act} {Q : Exit → Go.Act → World → Prop} (hgd : o.guard = none) (x : Operand)
    (ho : o.op = .call { callee := .builtin .clear, args := #[x], argTypes := #[t] })
    {b off m c : Nat} {tb : TypeId} {cur : List Value} (S : Sat g w (cellsA b tb cur.toArray :: L)) {dd : Addr} (hdd : dd = ⟨b, off, none⟩) (hx : a.eval x = .slice (some dd) m c) (hm : 0 < m) (hfit : off + m * size ≤ cur.length)
    (h : ∀ w' (zs : List Value), zs.length = m * size → Sat g w' (cellsA b tb (lay cur off zs).toArray :: L) → wpList P ops Q rest (a.put o.dst (.tuple #[])) w') : wpList P ops Q (o :: rest) a w := by
  subst hdd
  refine wpList_plain hgd fun K hK => ?_
  obtain ⟨i, hi, hz, hsize, hby⟩ := K0.info
  have hl : (Builtin.zeroCells z.cells m).toList.length = m * size := by rw [Array.length_toList, size_zeroCells, K0.cells]
  have hst := run_lay (P := P) (o := off) (cs := (Builtin.zeroCells z.cells m).toList) S (by rw [hl]; exact hfit) (zeroCells_one hz1 m (by rw [K0.cells]; exact K0.pos))
  have hr : (Builtin.clear_ #[t] o.type #[.slice (some ⟨b, off, none⟩) m c]).run P w = .ok (.tuple #[]) (w.setRow b (lay cur off (Builtin.zeroCells z.cells m).toList).toArray) := by
    obtain ⟨m, rfl⟩ : ∃ j, m = j + 1 := ⟨m - 1, by omega⟩
    simp [Builtin.clear_, run_underlying K0.sl, zeroValue, typeInfo, hi, hz, hst]
  unfold Oper.wp execOp
  simp only [ho, resolve, invoke, builtin, Sem.run_bind, Sem.run_pure, Result.andThen_ok, List.map_toArray, List.map_cons, List.map_nil, hx, hr]
  exact hK _ _ (h _ _ hl S.layRow)

/-! ### a struct stored into a row -/
theorem wpList_slay {ops : Array Oper} {rest : List Oper} {o : Oper} {a : Go.Act} {Q : Exit → Go.Act → World → Prop} (hgd : o.guard = none) (ty : TypeId) (x y : Operand) (ho : o.op = .store ty x y)
    {b off : Nat} {tb : TypeId} {cur : List Value} (S : Sat g w (cellsA b tb cur.toArray :: L)) {dd : Addr} (cs : List Value) (hdd : dd = ⟨b, off, none⟩) (hx : a.eval x = .pointer (some dd)) (hy : a.eval y = .agg cs.toArray)
    (hsz : (P.info? ty).map (·.size) = some cs.length) (hfit : off + cs.length ≤ cur.length) (h1 : ∀ v ∈ cs, v.oneCell' = true)
    (h : ∀ w', Sat g w' (cellsA b tb (lay cur off cs).toArray :: L) → wpList P ops Q rest (a.put o.dst undef) w') : wpList P ops Q (o :: rest) a w := by
  subst hdd
  refine wpList_plain hgd fun K hK => ?_
  have hst := run_lay (P := P) (o := off) (cs := cs) S hfit h1
  have hr : (storeVar ty ⟨b, off, none⟩ (.agg cs.toArray)).run P w = .ok () (w.setRow b (lay cur off cs).toArray) := by
    cases hq : P.info? ty with
    | none => simp [hq] at hsz
    | some i =>
      have hs : cs.length = i.size := by simp [hq] at hsz; omega
      simp [storeVar, sizeOf, typeInfo, hq, Value.cells, hs, hst]
  unfold Oper.wp execOp
  simp only [ho, hx, hy, Instr.storeAt, Instr.sureAddr, Sem.run_bind, Sem.run_pure, Result.andThen_ok, hr]
  exact hK _ _ (h _ S.layRow)
end
end

section
set_option linter.unusedVariables false
set_option linter.unusedSimpArgs false
open Go.RowKit

theorem wf_cons {P : Program} {w : World} {d : Nat} {xs ys : Array Value} {f : Field} {fs : List Field} (a b : Value) {r s : Bool} (hn : f.name ≠ "_") (ha : (part f.type xs f.offset).run P w = .ok a w) (hb : (part f.type ys f.offset).run P w = .ok b w)
    (hr : (Op.equalIn d f.type a b).run P w = .ok r w) (hrest : (Op.eqFields d xs ys fs).run P w = .ok s w) : (Op.eqFields d xs ys (f :: fs)).run P w = .ok (r && s) w := by
  unfold Op.eqFields
  rw [if_pos hn]
  simp only [Sem.run_bind, ha, hb, hr, Result.andThen_ok]
  cases r <;> simp [hrest]
theorem wneq_of {P : Program} {w : World} {t : TypeId} {fs : Array Field} {xs ys : Array Value} {b : Bool} (ht : P.underlying t = some (.struct fs)) (hp : P.stoodInHeld t = false) (h : (Op.eqFields 9999 xs ys fs.toList).run P w = .ok b w) :
    (binOp .neq t (.agg xs) (.agg ys)).run P w = .ok (.bool (!b)) w := by
  have e : P.fieldsOf t = fs := by simp [Program.fieldsOf, ht]
  subst e
  rw [run_neq_struct, run_equalIn_struct _ 9999 _ _ _ ht hp, h]
  rfl
theorem weq_of {P : Program} {w : World} {t : TypeId} {fs : Array Field} {xs ys : Array Value} {b : Bool} (ht : P.underlying t = some (.struct fs)) (hp : P.stoodInHeld t = false) (h : (Op.eqFields 9999 xs ys fs.toList).run P w = .ok b w) :
    (binOp .eql t (.agg xs) (.agg ys)).run P w = .ok (.bool b) w := by
  have e : P.fieldsOf t = fs := by simp [Program.fieldsOf, ht]
  subst e
  rw [run_eql_struct, run_equalIn_struct _ 9999 _ _ _ ht hp, h]
  rfl
theorem wstr_eq {P : Program} {w : World} {d : Nat} {t : TypeId} {a b : List UInt8} (h : P.underlying t = some .string) : (Op.equalIn (d + 1) t (.string (S a)) (.string (S b))).run P w = .ok (a == b) w := by
  rw [run_equalIn_string _ _ _ _ _ h]; simp
end

end Go.Proofs.YtanlobdidjednaaGreatDoor
