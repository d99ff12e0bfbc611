/- Memory in pieces, more: append onto a slice without room; a cell of a row; parts of a slice. No condition. -/
import Derived.Test.YtmlnhiodabielaaDoorSep
set_option linter.unusedVariables false
namespace Go.Proofs.YtmlnhiodabielaaDoor
open Go.RowKit

theorem Src.pre {w : World} {size : Nat} {A : Option Addr} {n : Nat} {xs : List Value} (h : Src w size A n xs) (k : Nat) (hk : k ≤ n) : Src w size A k (xs.take (k * size)) := by
  obtain ⟨h1, h2⟩ := h
  have := Nat.mul_le_mul_right size hk
  refine ⟨by simp; omega, fun h0 => ?_⟩
  obtain ⟨ad, e, h3⟩ := h2 (by omega)
  exact ⟨ad, e, fun j u hu => h3 j u (by rw [List.getElem?_take] at hu; split at hu; exact hu; cases hu)⟩
theorem Src.suf {w : World} {size : Nat} {ad : Addr} {n : Nat} {xs : List Value} (h : Src w size (some ad) n xs) (k : Nat) (hk : k ≤ n) : Src w size (some (ad.add (k * size))) (n - k) (xs.drop (k * size)) := by
  obtain ⟨h1, h2⟩ := h
  refine ⟨by rw [List.length_drop, h1, Nat.sub_mul], fun h0 => ?_⟩
  obtain ⟨ad', e, h3⟩ := h2 (by omega)
  cases e
  refine ⟨_, rfl, fun j u hu => ?_⟩
  rw [add_add]
  exact h3 _ _ (by rw [List.getElem?_drop] at hu; exact hu)
theorem Src.empty {w : World} {size : Nat} {A : Option Addr} : Src w size A 0 [] := ⟨by simp, fun h => by omega⟩

variable {P : Program} {t e : TypeId} {size bytes : Nat} {z : Value}
theorem run_full (K : Sl P t e size bytes z) {w : World} {B : Option Addr} {n : Nat} {xs : List Value} (hB : Src w size B n xs) (hnil : B = none → n = 0) {A : Option Addr} {m c : Nat} {news : List Value} (hsrc : Src w size A m news) (hm : 0 < m)
    (h63 : n + m ≤ maxLen) (hbytes : (n + m) * bytes ≤ 140737488355328) (ty : TypeId) :
    ∃ v' w', (Builtin.append_ #[t, t] ty #[.slice B n n, .slice A m c]).run P w = .ok v' w' ∧ w'.ownsRow w.heap.size e size v' (n + m) (xs ++ news) ∧ Keeps (fun _ => False) w w' := by
  obtain ⟨i, hi, hz, rfl, rfl⟩ := K.info
  obtain ⟨ad, rfl, hc⟩ := hsrc.2 hm
  have hlx := hB.1
  have hln := hsrc.1
  have hlen : (xs ++ news).length = (n + m) * i.size := by rw [List.length_append, hlx, hln, Nat.add_mul]
  have hsmall : n + m ≤ 9223372036854775807 := by simp only [maxLen] at h63; omega
  have grown : ∀ (old : Nat), old < n + m →
      (w.drew.alloc (.cells (xs.toArray ++ news.toArray ++ Builtin.zeroCells z.cells (grownCap w (n + m) old e - (n + m))) e)).ownsRow w.heap.size e i.size
        (.slice (some ⟨w.heap.size, 0, none⟩) (n + m) (grownCap w (n + m) old e)) (n + m) (xs ++ news) := by
    intro old ho
    have hge := grownCap_ge w (n + m) old e
    have hcm : grownCap w (n + m) old e ≤ maxLen := grownCap_le_maxLen w (n + m) old e h63
    refine ⟨hlen, .inr ⟨w.heap.size, _, _, rfl, Nat.le_refl _, heap_alloc_new w.drew _, hge, hcm, ?_, ?_⟩⟩
    · simp only [Array.size_append, List.size_toArray, size_zeroCells, K.cells, hlx, hln, ← Nat.add_mul]
      congr 1
      omega
    · simp only [Array.toList_append, List.append_assoc]
      rw [← List.append_assoc, ← hlen]
      exact List.take_left
  cases B with
  | none =>
    obtain rfl := hnil rfl
    have hx : xs = [] := List.eq_nil_of_length_eq_zero (by simpa using hlx)
    subst hx
    have hr := run_append_nil (P := P) w t ty e i z K.sl hi hz ad m c news hln hc hm (by omega) (by simp only [Nat.zero_add] at hbytes; omega)
    have hgr := grown 0 (by omega)
    simp only [Nat.zero_add, List.nil_append, Array.empty_append] at hgr ⊢
    exact ⟨_, _, hr, hgr, ((Keeps.refl _ w).drew).alloc _⟩
  | some b =>
    have holds : ∀ j u, xs[j]? = some u → w.cell? (b.add j) = some u := by
      intro j u hu
      have hj := (List.getElem?_eq_some_iff.1 hu).1
      obtain ⟨b', e', h3⟩ := hB.2 (by
        rcases Nat.eq_zero_or_pos n with h0 | h0
        · subst h0; simp at hlx; subst hlx; simp at hj
        · exact h0)
      cases e'
      exact h3 j u hu
    have hr := run_append_grow (P := P) w t ty e i z K.sl hi hz b n n xs hlx holds ad m c news hln hc (by omega) (by omega) (growslice_fits (by omega) hbytes)
    exact ⟨_, _, hr, grown n (by omega), ((Keeps.refl _ w).drew).alloc _⟩

theorem Sat.ownRow {g w w' : World} {L : List Asn} {n : Nat} {v : Value} {xs : List Value} (S : Sat g w L) (hk : Keeps (fun _ => False) w w') (hr : w'.ownsRow w.heap.size e size v n xs) : Sat g w' (rowA e size v n xs :: L) := by
  obtain ⟨hl, hr⟩ := hr
  rcases hr with ⟨rfl, rfl⟩ | ⟨b, cap, cur, rfl, hb, hg, q1, q2, q3, q4⟩
  · have := (S.keep hk).nilRow e size
    have h0 : xs = [] := by simpa using hl
    subst h0
    exact this
  · exact S.new hk (hone b (.cells cur e (0, 0)) true) ⟨hl, .inr ⟨b, cap, cur, rfl, q1, q2, q3, q4, rfl⟩⟩ (hone_mem hg) (fun k hk => by unfold hone; rw [if_neg (by omega)])

/-- append onto a slice without room, as one step of a region that draws -/
theorem step_full (K0 : Sl P t e size bytes z) {ops : Array Oper} {o : Oper} {a : Act} {g w : World} {L : List Asn} {K : Act → World → Prop} {Q : Exit → Act → World → Prop} {E : Prop}
    (hg : o.guard = none) (s x : Operand) (hop : o.op = Op.call { callee := Callee.builtin Builtin.append, args := #[s, x], argTypes := #[t, t] })
    {B : Option Addr} {n : Nat} {xs : List Value} (S : Sat g w L) (hB : Src w size B n xs) (hnil : B = none → n = 0) (hs : a.eval s = .slice B n n) {A : Option Addr} {m c : Nat} {news : List Value} (hsrc : Src w size A m news) (hm : 0 < m) (hx : a.eval x = .slice A m c)
    (h63 : n + m ≤ maxLen) (hbytes : (n + m) * bytes ≤ 140737488355328)
    (hK : ∀ A' c' w', Sat g w' (rowA e size (.slice A' (n + m) c') (n + m) (xs ++ news) :: L) → K (a.put o.dst (.slice A' (n + m) c')) w') :
    if Region.wanted o (yielded ops a.tmps) = true then Oper.wp P o a w K Q else E := by
  have hw : Region.wanted o (yielded ops a.tmps) = true := by simp [Region.wanted, hg]
  rw [if_pos hw]
  obtain ⟨v', w', hr, h2, h3⟩ := run_full K0 hB hnil (c := c) hsrc hm h63 hbytes o.type
  unfold Oper.wp execOp
  simp only [hop, resolve, invoke, builtin, Sem.run_bind, Sem.run_pure, Result.andThen_ok, List.map_toArray, List.map_cons, List.map_nil, hs, hx, hr]
  have S' := S.ownRow h3 h2
  obtain ⟨A', c', e', _⟩ := Row.form S'.row
  subst e'
  exact hK _ _ _ S'

end Go.Proofs.YtmlnhiodabielaaDoor
