/- The model of the statements of layer 9: what it is; New, Find, Check. No condition. The model of the statements of layer 9: Check, Kids, Set. No condition. The model of the statements of layer 9: Set. No condition. The model of the statements of layer 9: Create. No condition. The model of the statements of layer 9 beside the tree: what each act leaves. Plain. -/
import Derived.Test.YtanlobdidjednaaGreatDoorTRd
import Derived.Test.YtanlobdidjednaaGreatDoorFullM
import Derived.Deep.RegionHeld3
import Derived.Test.YtanlobdidjednaaGreatDoorTreeM
import Derived.Test.YtanlobdidjednaaGreatDoorPathM
namespace Go.Proofs.YtanlobdidjednaaGreatDoor
section
set_option linter.unusedVariables false
set_option linter.unusedSimpArgs false
open Go.RowKit

def entC (p : List UInt8 × NodeT) : List Value := [.string (S p.1), .string (S p.2.data), .int .i64 p.2.version, .int .i64 p.2.below, .int .i64 p.2.owner, .int .i64 p.2.made, .int .i64 p.2.set, .int .i64 p.2.serial]
abbrev entV (p : List UInt8 × NodeT) : Value := .agg #[.string (S p.1), .string (S p.2.data), .int .i64 p.2.version, .int .i64 p.2.below, .int .i64 p.2.owner, .int .i64 p.2.made, .int .i64 p.2.set, .int .i64 p.2.serial]
abbrev entA (p : List UInt8 × NodeT) : Array Value := #[.string (S p.1), .string (S p.2.data), .int .i64 p.2.version, .int .i64 p.2.below, .int .i64 p.2.owner, .int .i64 p.2.made, .int .i64 p.2.set, .int .i64 p.2.serial]
theorem entC_len (p : List UInt8 × NodeT) : (entC p).length = 8 := rfl
section
variable {g w : World} {L : List Asn} {b : Nat} {M : TreeT} {v : Value}
theorem ent_at {A : Option Addr} {n : Nat} (h : Src w 8 A n (M.flatMap entC)) {k : Nat} (hn : M.length = n) (hk : k < n) :
    ∃ ad x, A = some ad ∧ M[k]? = some x ∧ w.cell? (ad.add (k * 8)) = some (.string (S x.1)) ∧ w.cell? ⟨(ad.add (k * 8)).block, (ad.add (k * 8)).off + 1, none⟩ = some (.string (S x.2.data)) ∧
      w.cell? ⟨(ad.add (k * 8)).block, (ad.add (k * 8)).off + 2, none⟩ = some (.int .i64 x.2.version) ∧ w.cell? ⟨(ad.add (k * 8)).block, (ad.add (k * 8)).off + 3, none⟩ = some (.int .i64 x.2.below) ∧
      w.cell? ⟨(ad.add (k * 8)).block, (ad.add (k * 8)).off + 4, none⟩ = some (.int .i64 x.2.owner) ∧ w.cell? ⟨(ad.add (k * 8)).block, (ad.add (k * 8)).off + 5, none⟩ = some (.int .i64 x.2.made) ∧
      w.cell? ⟨(ad.add (k * 8)).block, (ad.add (k * 8)).off + 6, none⟩ = some (.int .i64 x.2.set) ∧ w.cell? ⟨(ad.add (k * 8)).block, (ad.add (k * 8)).off + 7, none⟩ = some (.int .i64 x.2.serial) := by
  obtain ⟨ad, e, hc⟩ := h.2 (by omega)
  have ha := List.getElem?_eq_getElem (l := M) (i := k) (by omega)
  have hf := flatK_at (f := entC) (n := 8) (fun _ => rfl) M k _ ha
  refine ⟨ad, M[k], e, ha, hc _ _ (hf 0 _ rfl), ?_, ?_, ?_, ?_, ?_, ?_, ?_⟩
  · rw [← add_succ, add_add]; exact hc _ _ (hf 1 _ rfl)
  · rw [← add_succ, add_add]; exact hc _ _ (hf 2 _ rfl)
  · rw [← add_succ, add_add]; exact hc _ _ (hf 3 _ rfl)
  · rw [← add_succ, add_add]; exact hc _ _ (hf 4 _ rfl)
  · rw [← add_succ, add_add]; exact hc _ _ (hf 5 _ rfl)
  · rw [← add_succ, add_add]; exact hc _ _ (hf 6 _ rfl)
  · rw [← add_succ, add_add]; exact hc _ _ (hf 7 _ rfl)

/-- where a node is -/
def findN (M : TreeT) (s : List UInt8) : Nat := M.findIdx fun p => decide (p.1 = s)
def findF (M : TreeT) (s : List UInt8) : Int := if s ∈ keys M then (findN M s : Int) else -1
theorem find_hit {M : TreeT} {s : List UInt8} {k : Nat} {p : List UInt8 × NodeT} (h : M[k]? = some p) (hp : p.1 = s) (hb : ∀ q ∈ M.take k, q.1 ≠ s) : findF M s = k ∧ findN M s = k := by
  obtain ⟨hk, e⟩ := List.getElem?_eq_some_iff.1 h
  have hn : findN M s = k := by
    unfold findN
    rw [List.findIdx_eq hk]
    refine ⟨by simp [e, hp], fun j hj => ?_⟩
    have := hb (M[j]'(by omega)) (List.mem_take_iff_getElem.2 ⟨j, by omega, rfl⟩)
    simpa using this
  refine ⟨?_, hn⟩
  unfold findF
  rw [if_pos (List.mem_map.2 ⟨p, List.mem_of_getElem? h, hp⟩), hn]
theorem find_miss {M : TreeT} {s : List UInt8} (hb : ∀ q ∈ M, q.1 ≠ s) : findF M s = -1 := by
  unfold findF
  rw [if_neg]
  intro h
  obtain ⟨q, hq, e⟩ := List.mem_map.1 h
  exact hb q hq e

end
end

section
set_option linter.unusedVariables false
set_option linter.unusedSimpArgs false
open Go.RowKit

theorem find_at {M : TreeT} {s : List UInt8} (h : s ∈ keys M) : ∃ n, M[findN M s]? = some (s, n) ∧ mget M s = some n ∧ findN M s < M.length := by
  induction M with
  | nil => simp at h
  | cons p M ih =>
    obtain ⟨q, n⟩ := p
    by_cases hp : q = s
    · subst hp
      have e : findN ((q, n) :: M) q = 0 := by simp [findN, List.findIdx_cons]
      exact ⟨n, by rw [e]; rfl, by simp [mget], by rw [e]; simp⟩
    · have hm : s ∈ keys M := by
        simp only [keys, List.map_cons, List.mem_cons] at h
        rcases h with h | h
        · exact absurd h.symm hp
        · exact h
      obtain ⟨n', h1, h2, h3⟩ := ih hm
      have e : findN ((q, n) :: M) s = findN M s + 1 := by simp [findN, List.findIdx_cons, hp]
      refine ⟨n', by rw [e]; simpa using h1, ?_, by rw [e]; simp; omega⟩
      simp only [mget, List.find?_cons, hp, decide_false] at h2 ⊢
      exact h2

section
variable {g w : World} {L : List Asn} {b : Nat} {M : TreeT} {v : Value}
/-- those below s, in the model's order -/
def kidM (M : TreeT) (s : List UInt8) : List (List UInt8) := (M.filter fun p => decide ((upF p.1).1 = s ∧ p.1 ≠ [47])).map fun p => (upF p.1).2
theorem kidM_eq (M : TreeT) {s : List UInt8} (hs : s ≠ []) : kidM M s = kidL M s := by
  unfold kidM kidL
  congr 1
  apply List.filter_congr
  intro p _
  by_cases h : p.1 = [47]
  · rw [h, up_root]
    simp [hs.symm]
  · simp [h]
theorem kidM_succ (M : TreeT) (s : List UInt8) (k : Nat) (p : List UInt8 × NodeT) (h : M[k]? = some p) :
    kidM (M.take (k + 1)) s = kidM (M.take k) s ++ if (upF p.1).1 = s ∧ p.1 ≠ [47] then [(upF p.1).2] else [] := by
  unfold kidM
  rw [take_filter_succ _ _ k p h, List.map_append]
  congr 1
  by_cases hc : (upF p.1).1 = s ∧ p.1 ≠ [47]
  · simp [hc]
  · simp [hc]
theorem kidM_le (M : TreeT) (s : List UInt8) : (kidM M s).length ≤ M.length := by
  unfold kidM
  rw [List.length_map]
  exact List.length_filter_le _ _

end
end

section
set_option linter.unusedVariables false
set_option linter.unusedSimpArgs false
open Go.RowKit

theorem flat_set {α : Type} {f : α → List Value} {n : Nat} (hn : ∀ a, (f a).length = n) (M : List α) (i j : Nat) (p p' : α) (v : Value) (h : M[i]? = some p) (hj : j < n) (hp : f p' = (f p).set j v) :
    (M.flatMap f).set (i * n + j) v = (M.set i p').flatMap f := by
  induction M generalizing i with
  | nil => simp at h
  | cons a M ih =>
    cases i with
    | zero =>
      simp only [List.getElem?_cons_zero, Option.some.injEq] at h
      subst h
      rw [List.flatMap_cons, List.set_cons_zero, List.flatMap_cons, hp, Nat.zero_mul, Nat.zero_add, List.set_append_left _ _ (by rw [hn]; exact hj)]
    | succ i =>
      simp only [List.getElem?_cons_succ] at h
      rw [List.flatMap_cons, List.set_cons_succ, List.flatMap_cons, ← ih i h, List.set_append_right _ _ (by rw [hn, Nat.succ_mul]; omega)]
      congr 2
      rw [hn, Nat.succ_mul]
      omega
theorem set_put {M : TreeT} (hn : (keys M).Nodup) {s : List UInt8} (h : s ∈ keys M) (n' : NodeT) : M.set (findN M s) (s, n') = mput M s n' := by
  induction M with
  | nil => simp at h
  | cons p M ih =>
    obtain ⟨q, n⟩ := p
    simp only [keys, List.map_cons, List.nodup_cons] at hn
    by_cases hp : q = s
    · subst hp
      have e : findN ((q, n) :: M) q = 0 := by simp [findN, List.findIdx_cons]
      rw [e, List.set_cons_zero, mput_head hn.1]
    · have hm : s ∈ keys M := by
        simp only [keys, List.map_cons, List.mem_cons] at h
        rcases h with h | h
        · exact absurd h.symm hp
        · exact h
      have e : findN ((q, n) :: M) s = findN M s + 1 := by simp [findN, List.findIdx_cons, hp]
      rw [e, List.set_cons_succ, ih hn.2 hm]
      obtain ⟨u, hu⟩ := mem_keys_mget.1 hm
      have hu2 : mget ((q, n) :: M) s = some u := by
        simp only [mget, List.find?_cons, hp, decide_false] at hu ⊢
        exact hu
      unfold mput
      rw [hu, hu2]
      simp [hp]
theorem entC_set1 (s d d' : List UInt8) (ve bl ow md st sr : Int) : entC (s, ⟨d', ve, bl, ow, md, st, sr⟩) = (entC (s, ⟨d, ve, bl, ow, md, st, sr⟩)).set 1 (.string (S d')) := rfl
theorem entC_set2 (s d : List UInt8) (ve ve' bl ow md st sr : Int) : entC (s, ⟨d, ve', bl, ow, md, st, sr⟩) = (entC (s, ⟨d, ve, bl, ow, md, st, sr⟩)).set 2 (.int .i64 ve') := rfl
theorem entC_set3 (s d : List UInt8) (ve bl bl' ow md st sr : Int) : entC (s, ⟨d, ve, bl', ow, md, st, sr⟩) = (entC (s, ⟨d, ve, bl, ow, md, st, sr⟩)).set 3 (.int .i64 bl') := rfl
theorem entC_set6 (s d : List UInt8) (ve bl ow md st st' sr : Int) : entC (s, ⟨d, ve, bl, ow, md, st', sr⟩) = (entC (s, ⟨d, ve, bl, ow, md, st, sr⟩)).set 6 (.int .i64 st') := rfl
theorem entC_set7 (s d : List UInt8) (ve bl ow md st sr sr' : Int) : entC (s, ⟨d, ve, bl, ow, md, st, sr'⟩) = (entC (s, ⟨d, ve, bl, ow, md, st, sr⟩)).set 7 (.int .i64 sr') := rfl
theorem flatE_len (M : TreeT) : (M.flatMap entC).length = M.length * 8 := flatK_len (n := 8) (fun _ => rfl) M

section
variable {g w : World} {L : List Asn} {b : Nat} {M : TreeT} {v : Value}
end
end

section
set_option linter.unusedVariables false
set_option linter.unusedSimpArgs false
open Go.RowKit

theorem Src.zeroT {w : World} {size : Nat} {A : Option Addr} {n : Nat} {xs : List Value} (hn : n = 0) (hx : xs = []) : Src w size A n xs := by
  subst hn hx
  exact Src.empty
theorem oneEn (M : TreeT) : ∀ u ∈ M.flatMap entC, u.oneCell' = true := flatK_one (fun a u hu => by simp [entC] at hu; rcases hu with rfl | rfl | rfl | rfl | rfl | rfl | rfl | rfl <;> rfl) M
/-- append onto a slice without room -/
theorem wpList_sfull {P : Program} {t e : TypeId} {size bytes : Nat} {z : Value} (K0 : Sl P t e size bytes z) {g w : World} {L : List Asn} {ops : Array Oper} {rest : List Oper} {o : Oper} {a : Act} {Q : Exit → Act → World → Prop} (hgd : o.guard = none) (s x : Operand)
    (ho : o.op = .call { callee := .builtin .append, args := #[s, x], argTypes := #[t, t] })
    {B : Option Addr} {n : Nat} {xs : List Value} (S : Sat g w L) (hB : Src w size B n xs) (hnil : B = none → n = 0) (hs : a.eval s = .slice B n n) {A : Option Addr} {m c : Nat} {news : List Value} (hsrc : Src w size A m news) (hm : 0 < m) (hx : a.eval x = .slice A m c)
    (h63 : n + m ≤ maxLen) (hbytes : (n + m) * bytes ≤ 140737488355328)
    (h : ∀ A' c' w', Sat g w' (rowA e size (.slice A' (n + m) c') (n + m) (xs ++ news) :: L) → wpList P ops Q rest (a.put o.dst (.slice A' (n + m) c')) w') : wpList P ops Q (o :: rest) a w := by
  refine wpList_plain hgd fun K hK => ?_
  obtain ⟨v', w', hr, h2, h3⟩ := run_full K0 hB hnil (c := c) hsrc hm h63 hbytes o.type
  unfold Oper.wp execOp
  simp only [ho, resolve, invoke, builtin, Sem.run_bind, Sem.run_pure, Result.andThen_ok, List.map_toArray, List.map_cons, List.map_nil, hs, hx, hr]
  have S' := S.ownRow h3 h2
  obtain ⟨A', c', e', _⟩ := Row.form S'.row
  subst e'
  exact hK _ _ (h _ _ _ S')

/-- a node laid into the order -/
def insN (M : TreeT) (s : List UInt8) (n : NodeT) : TreeT := M.takeWhile (fun p => Op.bytesLess p.1 s) ++ (s, n) :: M.dropWhile (fun p => Op.bytesLess p.1 s)
theorem insN_at {M : TreeT} (s : List UInt8) (n : NodeT) {k : Nat} (h1 : ∀ q ∈ M.take k, Op.bytesLess q.1 s = true) (h2 : ∀ p, M[k]? = some p → Op.bytesLess p.1 s = false) : insN M s n = M.take k ++ (s, n) :: M.drop k := by
  unfold insN
  induction M generalizing k with
  | nil => simp
  | cons p M ih =>
    cases k with
    | zero =>
      have := h2 p rfl
      simp [this]
    | succ k =>
      have hp := h1 p (by simp)
      have := ih (k := k) (fun q hq => h1 q (by simp [hq])) (fun q hq => h2 q (by simpa using hq))
      simp [hp, this]
def createM (M : TreeT) (s data : List UInt8) (owner when_ : Int) (serial : Bool) : List UInt8 × Int × TreeT :=
  if (createF M s data owner when_ serial).2.1 = 0 then ((createF M s data owner when_ serial).1, 0, insN (mput M (upF s).1 (moreN ((mget M (upF s).1).getD zN) serial)) (createF M s data owner when_ serial).1 (newN data owner when_)) else createF M s data owner when_ serial

section
variable {g w : World} {L : List Asn} {b : Nat} {M : TreeT} {v : Value}
end
end

section
set_option linter.unusedVariables false
set_option linter.unusedSimpArgs false
/-- each node has the one above it -/
def ClosedN (M : TreeT) : Prop := ∀ k ∈ keys M, k = [47] ∨ (upF k).1 ∈ keys M
theorem cut_del {M : TreeT} (hn : (keys M).Nodup) {s : List UInt8} (h : s ∈ keys M) : M.take (findN M s) ++ M.drop (findN M s + 1) = mdel M s := by
  obtain ⟨n, h1, _, _⟩ := find_at h
  rw [filter_erase hn h1, List.eraseIdx_eq_take_drop_succ]
theorem getF_ne {M : TreeT} {s : List UInt8} (h : (getF M s).2 = 0) : s ∈ keys M ∧ s ≠ [] := by
  unfold getF at h
  split at h
  · rename_i hc
    refine ⟨?_, ?_⟩
    · cases hm : mget M s with
      | none => rw [hm] at h; simp at h
      | some n => exact mem_keys_mget.2 ⟨n, hm⟩
    · rintro rfl
      revert hc
      decide
  · rename_i hc
    exact absurd h hc

/-! ### what a path looks like -/
theorem last_split (s : List UInt8) (h : (47 : UInt8) ∈ s) : ∃ l p, s = l ++ 47 :: p ∧ (47 : UInt8) ∉ p := by
  induction s with
  | nil => cases h
  | cons c r ih =>
    by_cases hr : (47 : UInt8) ∈ r
    · obtain ⟨l, p, e, hp⟩ := ih hr
      exact ⟨c :: l, p, by rw [e]; rfl, hp⟩
    · rcases List.mem_cons.1 h with h1 | h1
      · exact ⟨[], r, by rw [← h1]; rfl, hr⟩
      · exact absurd h1 hr
theorem part_nil : partF [] = false := by decide
theorem check_shape {s : List UInt8} (h : checkF s = 0) (hr : s ≠ [47]) : ∃ l p, s = l ++ 47 :: p ∧ (47 : UInt8) ∉ p ∧ p ≠ [] ∧ l ≠ [47] ∧ s.length ≤ 60 := by
  unfold checkF at h
  rw [if_neg hr] at h
  split at h
  · simp at h
  · rename_i h1
    simp only [not_or, Bool.not_eq_false] at h1
    obtain ⟨h60, hpre⟩ := h1
    split at h
    · rename_i hall
      cases s with
      | nil => simp at hpre
      | cons c r =>
        have hc : c = 47 := by
          simp only [List.isPrefixOf, Bool.and_eq_true, beq_iff_eq] at hpre
          exact hpre.1.symm
        subst hc
        obtain ⟨l, p, e, hp⟩ := last_split (47 :: r) (by simp)
        rw [show List.drop 1 ((47 : UInt8) :: r) = r from rfl] at hall
        have hpm : p ∈ cutL 47 r ∧ (l = [] ∨ ∃ l', l = 47 :: l' ∧ ∀ q ∈ cutL 47 l', q ∈ cutL 47 r) := by
          cases l with
          | nil =>
            have e2 : r = p := by injection e
            subst e2
            rw [cutL_none_ hp]
            exact ⟨by simp, .inl rfl⟩
          | cons d l' =>
            injection e with e1 e2
            subst e1
            have e2 : r = l' ++ 47 :: p := e2
            rw [e2, cutL_join, cutL_none_ hp]
            exact ⟨by simp, .inr ⟨l', rfl, fun q hq => by simp [hq]⟩⟩
        obtain ⟨hm, hl⟩ := hpm
        rw [List.all_eq_true] at hall
        refine ⟨l, p, e, hp, ?_, ?_, by omega⟩
        · rintro rfl
          have := hall _ hm
          rw [part_nil] at this
          cases this
        · rintro rfl
          rcases hl with hl | ⟨l', e3, hq⟩
          · cases hl
          · injection e3 with _ e4
            subst e4
            have := hall [] (hq [] (by decide))
            rw [part_nil] at this
            cases this
    · simp at h
theorem key_of_up {k : List UInt8} (h : checkF k = 0) (hr : k ≠ [47]) : k = (if (upF k).1 = [47] then [] else (upF k).1) ++ 47 :: (upF k).2 := by
  obtain ⟨l, p, e, hp, hne, hl, _⟩ := check_shape h hr
  have hu := upF_cat l p hp hne
  rw [← e] at hu
  rw [hu]
  by_cases h0 : l = []
  · subst h0
    simpa using e
  · simp only [h0, if_false]
    rw [if_neg hl]
    exact e
theorem up_serial {s : List UInt8} (h : checkF s = 0) (hr : s ≠ [47]) {n : Int} (h0 : 0 ≤ n) (hn : n < 1000) : (upF (serialF s n)).1 = (upF s).1 ∧ serialF s n ≠ [47] := by
  obtain ⟨l, p, e, hp, hne, hl, _⟩ := check_shape h hr
  have hpad := (pad_fix 10 n.toNat (by decide) (by omega)).2
  have hs : serialF s n = l ++ 47 :: (p ++ fixD 10 n.toNat) := by
    show s ++ Lib.repeatL [48] (10 - (Lib.decDigits n.toNat).length) ++ Lib.decDigits n.toNat = _
    rw [List.append_assoc, hpad, e]
    simp
  have hq : (47 : UInt8) ∉ p ++ fixD 10 n.toNat := by
    intro hm
    rcases List.mem_append.1 hm with hm | hm
    · exact hp hm
    · have := fixD_digit 10 n.toNat 47 hm
      simp at this
  have hpn : p ++ fixD 10 n.toNat ≠ [] := by simp [hne]
  have hu1 := upF_cat l p hp hne
  have hu2 := upF_cat l _ hq hpn
  rw [← e] at hu1
  rw [← hs] at hu2
  refine ⟨by rw [hu1, hu2], ?_⟩
  rw [hs]
  intro hc
  have := congrArg List.length hc
  simp [fixD_length] at this
  omega
theorem check_len {s : List UInt8} (h : checkF s = 0) : s.length ≤ 60 := by
  by_cases hr : s = [47]
  · subst hr; decide
  · obtain ⟨_, _, _, _, _, _, q⟩ := check_shape h hr
    exact q
theorem check_nil : checkF [] = 10 := by decide

/-! ### lists of pairs in another order -/
theorem mget_perm {T M : TreeT} (h : T.Perm M) (hn : (keys M).Nodup) (k : List UInt8) : mget T k = mget M k := by
  have hp : (keys T).Perm (keys M) := h.map _
  cases hm : mget M k with
  | none =>
    rw [mget_none] at hm ⊢
    exact fun hk => hm (hp.mem_iff.1 hk)
  | some n => exact mget_some (hp.nodup_iff.2 hn) (h.mem_iff.2 (mget_mem hm))
theorem mput_perm {T M : TreeT} (h : T.Perm M) (hn : (keys M).Nodup) (k : List UInt8) (n : NodeT) : (mput T k n).Perm (mput M k n) := by
  unfold mput
  rw [mget_perm h hn]
  split
  · exact h.map _
  · exact h.append_right _
theorem mdel_permT {T M : TreeT} (h : T.Perm M) (k : List UInt8) : (mdel T k).Perm (mdel M k) := h.filter _
theorem mem_mput {M : TreeT} {k : List UInt8} {n : NodeT} {p : List UInt8 × NodeT} (h : p ∈ mput M k n) : p = (k, n) ∨ p ∈ M := by
  unfold mput at h
  split at h
  · obtain ⟨q, hq, e⟩ := List.mem_map.1 h
    split at e
    · exact .inl e.symm
    · exact .inr (e ▸ hq)
  · rcases List.mem_append.1 h with h | h
    · exact .inr h
    · exact .inl (by simpa using h)
theorem mem_mdel {M : TreeT} {k : List UInt8} {p : List UInt8 × NodeT} (h : p ∈ mdel M k) : p ∈ M ∧ p.1 ≠ k := by
  unfold mdel at h
  have := List.mem_filter.1 h
  exact ⟨this.1, by simpa using this.2⟩
theorem insN_perm (M : TreeT) (s : List UInt8) (n : NodeT) : (insN M s n).Perm ((s, n) :: M) := by
  unfold insN
  refine List.perm_middle.trans ?_
  rw [List.takeWhile_append_dropWhile]
theorem insN_asc {M : TreeT} (h : (keys M).Pairwise fun a b => Op.bytesLess a b = true) (s : List UInt8) (n : NodeT) (hs : s ∉ keys M) : (keys (insN M s n)).Pairwise fun a b => Op.bytesLess a b = true := by
  have htri : ∀ k ∈ keys M, Op.bytesLess k s = false → Op.bytesLess s k = true := by
    intro k hk hf
    refine less_not ?_
    rw [hf, Bool.false_or, beq_eq_false_iff_ne]
    rintro rfl
    exact hs hk
  unfold insN
  induction M with
  | nil => simp
  | cons p M ih =>
    simp only [keys, List.map_cons, List.pairwise_cons] at h
    have hs2 : s ∉ keys M := fun hk => hs (by simp [hk])
    by_cases hp : Op.bytesLess p.1 s = true
    · have ih' := ih h.2 hs2 (fun k hk => htri k (by simp [hk]))
      rw [List.takeWhile_cons_of_pos (by simpa using hp), List.dropWhile_cons_of_pos (by simpa using hp)]
      simp only [List.cons_append, keys, List.map_cons, List.pairwise_cons]
      refine ⟨fun k hk => ?_, ih'⟩
      have hm : k ∈ s :: keys M := by
        have h1 : (List.takeWhile (fun p => Op.bytesLess p.1 s) M ++ (s, n) :: List.dropWhile (fun p => Op.bytesLess p.1 s) M).Perm ((s, n) :: M) := insN_perm M s n
        exact (h1.map (·.1)).mem_iff.1 hk
      rcases List.mem_cons.1 hm with rfl | hm
      · exact hp
      · exact h.1 k hm
    · have hp' : Op.bytesLess p.1 s = false := by simpa using hp
      rw [List.takeWhile_cons_of_neg (by simpa using hp), List.dropWhile_cons_of_neg (by simpa using hp)]
      simp only [List.nil_append, keys, List.map_cons, List.pairwise_cons]
      have hsp := htri p.1 (by simp) hp'
      refine ⟨fun k hk => ?_, h⟩
      rcases List.mem_cons.1 hk with rfl | hk
      · exact hsp
      · exact less_tr hsp (h.1 k hk)

/-! ### the model stands for the tree -/
def okN (n : Nat) (v : NodeT) : Prop := 0 ≤ v.version ∧ v.version ≤ n ∧ 0 ≤ v.below ∧ v.below ≤ n ∧ 0 ≤ v.serial ∧ v.serial ≤ n ∧ 0 ≤ v.owner ∧ v.owner ≤ 281474976710655 ∧ 0 ≤ v.made ∧ v.made ≤ 1000 ∧ 0 ≤ v.set ∧ v.set ≤ 1000 ∧ v.data.length ≤ 60
structure Mod (T M : TreeT) (n : Nat) : Prop where
  perm : T.Perm M
  asc : (keys M).Pairwise fun a b => Op.bytesLess a b = true
  ok : ∀ k ∈ keys M, checkF k = 0 ∧ (k = [47] ∨ (upF k).1 ∈ keys M)
  root : [47] ∈ keys M
  len : M.length ≤ 60
  num : ∀ p ∈ M, okN n p.2
theorem Mod.nodup {T M : TreeT} {n : Nat} (h : Mod T M n) : (keys M).Nodup := h.asc.imp fun {a b} h e => by subst e; rw [less_irr] at h; cases h
theorem Mod.start : Mod rootT rootT 0 := by
  refine ⟨List.Perm.refl _, by simp [rootT], ?_, by simp [rootT], by decide, ?_⟩
  · intro k hk
    obtain rfl : k = [47] := by simpa [rootT] using hk
    exact ⟨by decide, .inl rfl⟩
  · intro p hp
    obtain rfl : p = ([47], zN) := by simpa [rootT] using hp
    refine ⟨?_, ?_, ?_, ?_, ?_, ?_, ?_, ?_, ?_, ?_, ?_, ?_, ?_⟩ <;> decide
section
variable {T M : TreeT} {n : Nat} (h : Mod T M n)
include h
theorem Mod.len_eq : T.length = M.length := h.perm.length_eq
theorem Mod.get (k : List UInt8) : mget T k = mget M k := mget_perm h.perm h.nodup k
theorem Mod.at_ {k : List UInt8} {a : NodeT} (hk : mget M k = some a) : okN n a := h.num _ (mget_mem hk)
theorem Mod.paths : PathsOk M := fun p hp => by
  have := check_len (h.ok p.1 (List.mem_map.2 ⟨p, hp, rfl⟩)).1
  omega
theorem Mod.pathsT : PathsOk T := fun p hp => h.paths p (h.perm.mem_iff.1 hp)
theorem Mod.closed : ClosedN M := fun k hk => (h.ok k hk).2
theorem Mod.le {m : Nat} (hm : n ≤ m) : Mod T M m := ⟨h.perm, h.asc, h.ok, h.root, h.len, fun p hp => by
  obtain ⟨a, b, c, d, e, f, r⟩ := h.num p hp
  exact ⟨a, by omega, c, by omega, e, by omega, r⟩⟩
theorem Mod.keysT : (keys T).Perm (keys M) := h.perm.map _
theorem Mod.pathsF : pathsF T = keys M := by
  unfold Go.Proofs.YtanlobdidjednaaGreatDoor.pathsF
  rw [sortB_eq h.keysT, sortB_asc h.asc]
theorem Mod.getF (s : List UInt8) : Go.Proofs.YtanlobdidjednaaGreatDoor.getF T s = Go.Proofs.YtanlobdidjednaaGreatDoor.getF M s := by
  unfold Go.Proofs.YtanlobdidjednaaGreatDoor.getF
  rw [h.get]
theorem Mod.atF (s : List UInt8) (v : Int) : Go.Proofs.YtanlobdidjednaaGreatDoor.atF T s v = Go.Proofs.YtanlobdidjednaaGreatDoor.atF M s v := by
  unfold Go.Proofs.YtanlobdidjednaaGreatDoor.atF
  rw [h.getF]
theorem Mod.owned (o : Int) : ownedF T o = (M.filter fun p => decide (p.2.owner = o ∧ o ≠ 0)).map (·.1) := by
  have hf : ∀ p ∈ M, ((mget T p.1).getD zN) = p.2 := fun p hp => by rw [h.get, mget_some h.nodup (show (p.1, p.2) ∈ M from hp)]; rfl
  unfold ownedF
  rw [h.pathsF, List.filter_map]
  congr 1
  apply List.filter_congr
  intro p hp
  simp only [Function.comp]
  rw [hf p hp]
theorem Mod.kids_asc (s : List UInt8) : (kidL M s).Pairwise fun a b => Op.bytesLess a b = true := by
  unfold kidL
  rw [List.pairwise_map]
  have h1 : M.Pairwise fun p q => Op.bytesLess p.1 q.1 = true := List.pairwise_map.1 h.asc
  have h2 := h1.filter (fun p => decide ((upF p.1).1 = s))
  refine List.Pairwise.imp_of_mem ?_ h2
  intro p q hp hq hlt
  obtain ⟨p1, p2⟩ := List.mem_filter.1 hp
  obtain ⟨q1, q2⟩ := List.mem_filter.1 hq
  simp only [decide_eq_true_eq] at p2 q2
  have kp := (h.ok p.1 (List.mem_map.2 ⟨p, p1, rfl⟩)).1
  have kq := (h.ok q.1 (List.mem_map.2 ⟨q, q1, rfl⟩)).1
  by_cases hpr : p.1 = [47]
  · rw [hpr, up_root] at p2
    by_cases hqr : q.1 = [47]
    · rw [hpr, hqr, less_irr] at hlt
      cases hlt
    · have e := key_of_up kq hqr
      rw [q2, ← p2] at e
      exfalso
      obtain ⟨l, c, e2, hc, hne, hl, _⟩ := check_shape kq hqr
      have hu := upF_cat l c hc hne
      rw [← e2, Prod.ext_iff] at hu
      have hu1 := hu.1
      simp only at hu1
      rw [q2, ← p2] at hu1
      split at hu1
      · simp at hu1
      · rename_i h0
        exact h0 hu1.symm
  · by_cases hqr : q.1 = [47]
    · exfalso
      rw [hqr, up_root] at q2
      obtain ⟨l, c, e2, hc, hne, hl, _⟩ := check_shape kp hpr
      have hu := upF_cat l c hc hne
      rw [← e2, Prod.ext_iff] at hu
      have hu1 := hu.1
      simp only at hu1
      rw [p2, ← q2] at hu1
      split at hu1
      · simp at hu1
      · rename_i h0
        exact h0 hu1.symm
    · have e1 := key_of_up kp hpr
      have e2 := key_of_up kq hqr
      rw [p2] at e1
      rw [q2] at e2
      rw [e1, e2, less_app] at hlt
      have := less_app [47] (upF p.1).2 (upF q.1).2
      rw [← this]
      exact hlt
theorem Mod.kids {s : List UInt8} (hs : (Go.Proofs.YtanlobdidjednaaGreatDoor.getF T s).2 = 0) : kidsF T s = kidM M s := by
  have hne : s ≠ [] := by
    rintro rfl
    have : Go.Proofs.YtanlobdidjednaaGreatDoor.getF T [] = (zN, 10) := by
      unfold Go.Proofs.YtanlobdidjednaaGreatDoor.getF
      rw [check_nil]
      rfl
    rw [this] at hs
    cases hs
  unfold kidsF
  rw [if_pos hs, sortB_eq (kidL_perm h.perm s), sortB_asc (h.kids_asc s), kidM_eq M hne]

/-! ### Create -/
theorem Mod.createF (s data : List UInt8) (owner when_ : Int) (f : Bool) :
    (Go.Proofs.YtanlobdidjednaaGreatDoor.createF T s data owner when_ f).1 = (Go.Proofs.YtanlobdidjednaaGreatDoor.createF M s data owner when_ f).1 ∧ (Go.Proofs.YtanlobdidjednaaGreatDoor.createF T s data owner when_ f).2.1 = (Go.Proofs.YtanlobdidjednaaGreatDoor.createF M s data owner when_ f).2.1 ∧
      (Go.Proofs.YtanlobdidjednaaGreatDoor.createF T s data owner when_ f).2.2.Perm (Go.Proofs.YtanlobdidjednaaGreatDoor.createF M s data owner when_ f).2.2 := by
  have hG : ∀ (s up : List UInt8) (a : NodeT) (f : Bool), (createG T s up a data owner when_ f).1 = (createG M s up a data owner when_ f).1 ∧ (createG T s up a data owner when_ f).2.1 = (createG M s up a data owner when_ f).2.1 ∧
      (createG T s up a data owner when_ f).2.2.Perm (createG M s up a data owner when_ f).2.2 := by
    intro s up a f
    unfold createG
    rw [h.get, h.len_eq]
    split
    · exact ⟨rfl, rfl, h.perm⟩
    · split
      · exact ⟨rfl, rfl, h.perm⟩
      · exact ⟨rfl, rfl, mput_perm (mput_perm h.perm h.nodup _ _) (nodup_mput h.nodup _ _) _ _⟩
  unfold Go.Proofs.YtanlobdidjednaaGreatDoor.createF
  rw [h.get]
  split
  · exact ⟨rfl, rfl, h.perm⟩
  · split
    · exact ⟨rfl, rfl, h.perm⟩
    · split
      · exact ⟨rfl, rfl, h.perm⟩
      · split
        · exact ⟨rfl, rfl, h.perm⟩
        · split
          · exact ⟨rfl, rfl, h.perm⟩
          · split
            · split
              · exact ⟨rfl, rfl, h.perm⟩
              · exact hG _ _ _ _
            · exact hG _ _ _ _
end

theorem createF_ok {M : TreeT} {s data : List UInt8} {owner when_ : Int} {f : Bool} (h0 : (createF M s data owner when_ f).2.1 = 0) :
    ∃ a nm, mget M (upF s).1 = some a ∧ a.owner = 0 ∧ checkF s = 0 ∧ s ≠ [47] ∧ data.length ≤ 60 ∧ nm = (if f = true then serialF s a.serial else s) ∧ checkF nm = 0 ∧ mget M nm = none ∧ M.length < 60 ∧
      createF M s data owner when_ f = (nm, 0, mput (mput M (upF s).1 (moreN a f)) nm (newN data owner when_)) := by
  have hG : ∀ (nm up : List UInt8) (a : NodeT), (createG M nm up a data owner when_ f).2.1 = 0 → mget M nm = none ∧ M.length < 60 ∧ createG M nm up a data owner when_ f = (nm, 0, mput (mput M up (moreN a f)) nm (newN data owner when_)) := by
    intro nm up a hg
    rw [createG_eq] at hg ⊢
    split at hg
    · simp at hg
    · rename_i h1
      split at hg
      · simp at hg
      · rename_i h2
        refine ⟨?_, by omega, by rw [if_neg h1, if_neg h2]⟩
        cases hm : mget M nm with
        | none => rfl
        | some v => rw [hm] at h1; simp at h1
  unfold createF at h0 ⊢
  split at h0
  · rename_i h1
    exact absurd h0 h1
  · rename_i h1
    rw [if_neg h1]
    split at h0
    · simp at h0
    · rename_i h2
      rw [if_neg h2]
      split at h0
      · simp at h0
      · rename_i h3
        rw [if_neg h3]
        split at h0
        · simp at h0
        · rename_i a hm
          split at h0
          · simp at h0
          · rename_i h4
            rw [if_neg h4]
            simp only [ne_eq, Decidable.not_not] at h1 h4
            cases f
            · simp only [Bool.false_eq_true, if_false] at h0 ⊢
              obtain ⟨q1, q2, q3⟩ := hG _ _ _ h0
              exact ⟨a, s, hm, h4, h1, h2, by omega, rfl, h1, q1, q2, q3⟩
            · simp only [if_true] at h0 ⊢
              split at h0
              · simp at h0
              · rename_i h5
                rw [if_neg h5]
                simp only [ne_eq, Decidable.not_not] at h5
                obtain ⟨q1, q2, q3⟩ := hG _ _ _ h0
                exact ⟨a, _, hm, h4, h1, h2, by omega, rfl, h5, q1, q2, q3⟩
theorem createF_bad {M : TreeT} {s data : List UInt8} {owner when_ : Int} {f : Bool} (h0 : (createF M s data owner when_ f).2.1 ≠ 0) : (createF M s data owner when_ f).2.2 = M := by
  have hG : ∀ (nm up : List UInt8) (a : NodeT) (f : Bool), (createG M nm up a data owner when_ f).2.1 ≠ 0 → (createG M nm up a data owner when_ f).2.2 = M := by
    intro nm up a f hg
    rw [createG_eq] at hg ⊢
    split
    · rfl
    · split
      · rfl
      · rename_i h1 h2
        rw [if_neg h1, if_neg h2] at hg
        simp at hg
  unfold createF at h0 ⊢
  split
  · rfl
  · rename_i h1
    rw [if_neg h1] at h0
    split
    · rfl
    · rename_i h2
      rw [if_neg h2] at h0
      split
      · rfl
      · rename_i h3
        rw [if_neg h3] at h0
        split
        · rfl
        · rename_i a hm
          rw [hm] at h0
          simp only at h0
          split
          · rfl
          · rename_i h4
            rw [if_neg h4] at h0
            split
            · rename_i h5
              rw [if_pos h5] at h0
              split
              · rfl
              · rename_i h6
                rw [if_neg h6] at h0
                exact hG _ _ _ _ h0
            · rename_i h5
              rw [if_neg h5] at h0
              exact hG _ _ _ _ h0

theorem moreN_ok {n : Nat} {a : NodeT} {f : Bool} (h : okN n a) : okN (n + 1) (moreN a f) := by
  obtain ⟨h1, h2, h3, h4, h5, h6, r⟩ := h
  refine ⟨h1, ?_, ?_, ?_, ?_, ?_, r⟩ <;> simp only [moreN] <;> first | omega | (split <;> omega)
theorem newN_ok {n : Nat} {data : List UInt8} {owner when_ : Int} (hd : data.length ≤ 60) (ho : 0 ≤ owner ∧ owner ≤ 281474976710655) (hw : 0 ≤ when_ ∧ when_ ≤ 1000) : okN n (newN data owner when_) :=
  ⟨Int.le_refl _, Int.natCast_nonneg _, Int.le_refl _, Int.natCast_nonneg _, Int.le_refl _, Int.natCast_nonneg _, ho.1, ho.2, hw.1, hw.2, hw.1, hw.2, hd⟩
theorem okN.up {n : Nat} {a : NodeT} (h : okN n a) : okN (n + 1) a := by
  obtain ⟨h1, h2, h3, h4, h5, h6, r⟩ := h
  exact ⟨h1, by omega, h3, by omega, h5, by omega, r⟩

section
variable {T M : TreeT} {n : Nat} (h : Mod T M n)
include h
theorem Mod.create (hn : n < 1000) (s data : List UInt8) (owner when_ : Int) (f : Bool) (ho : 0 ≤ owner ∧ owner ≤ 281474976710655) (hw : 0 ≤ when_ ∧ when_ ≤ 1000) :
    (Go.Proofs.YtanlobdidjednaaGreatDoor.createF T s data owner when_ f).1 = (createM M s data owner when_ f).1 ∧ (Go.Proofs.YtanlobdidjednaaGreatDoor.createF T s data owner when_ f).2.1 = (createM M s data owner when_ f).2.1 ∧
      Mod (Go.Proofs.YtanlobdidjednaaGreatDoor.createF T s data owner when_ f).2.2 (createM M s data owner when_ f).2.2 (n + 1) := by
  obtain ⟨q1, q2, q3⟩ := h.createF s data owner when_ f
  rw [q1, q2]
  by_cases h0 : (Go.Proofs.YtanlobdidjednaaGreatDoor.createF M s data owner when_ f).2.1 = 0
  · obtain ⟨a, nm, m1, m2, m3, m4, m5, m6, m7, m8, m9, m10⟩ := createF_ok h0
    have e : createM M s data owner when_ f = (nm, 0, insN (mput M (upF s).1 (moreN a f)) nm (newN data owner when_)) := by
      unfold createM
      rw [m10, if_pos rfl, m1]
      rfl
    have hup : (upF s).1 ∈ keys M := mem_keys_mget.2 ⟨a, m1⟩
    have hk1 : keys (mput M (upF s).1 (moreN a f)) = keys M := by rw [keys_mput, if_pos hup]
    have hnm : nm ∉ keys M := mget_none.1 m8
    have hao := h.at_ m1
    have hunm : (upF nm).1 = (upF s).1 := by
      rw [m6]
      split
      · exact (up_serial m3 m4 hao.2.2.2.2.1 (by have := hao.2.2.2.2.2.1; omega)).1
      · rfl
    have hpm := insN_perm (mput M (upF s).1 (moreN a f)) nm (newN data owner when_)
    have hkm : ∀ k, k ∈ keys (insN (mput M (upF s).1 (moreN a f)) nm (newN data owner when_)) ↔ k = nm ∨ k ∈ keys M := by
      intro k
      have := (hpm.map (·.1)).mem_iff (a := k)
      simp only [List.map_cons, List.mem_cons] at this
      rw [← hk1]
      exact this
    rw [e, m10]
    rw [m10] at q3
    refine ⟨rfl, rfl, ?_, ?_, ?_, ?_, ?_, ?_⟩
    · refine q3.trans ?_
      simp only
      rw [mput_new (by rw [mget_none, hk1]; exact hnm)]
      exact (List.perm_append_singleton _ _).trans hpm.symm
    · exact insN_asc (by rw [hk1]; exact h.asc) _ _ (by rw [hk1]; exact hnm)
    · intro k hk
      rcases (hkm k).1 hk with rfl | hk
      · exact ⟨m7, .inr ((hkm _).2 (.inr (by rw [hunm]; exact hup)))⟩
      · obtain ⟨r1, r2⟩ := h.ok k hk
        refine ⟨r1, ?_⟩
        rcases r2 with r2 | r2
        · exact .inl r2
        · exact .inr ((hkm _).2 (.inr r2))
    · exact (hkm _).2 (.inr h.root)
    · rw [hpm.length_eq, List.length_cons, length_mput, if_pos hup]
      omega
    · intro p hp
      rcases List.mem_cons.1 (hpm.mem_iff.1 hp) with rfl | hp
      · exact newN_ok m5 ho hw
      · rcases mem_mput hp with rfl | hp
        · exact moreN_ok hao
        · exact (h.num p hp).up
  · have e : createM M s data owner when_ f = Go.Proofs.YtanlobdidjednaaGreatDoor.createF M s data owner when_ f := by
      unfold createM
      rw [if_neg h0]
    have e2 := createF_bad h0
    rw [e]
    refine ⟨rfl, rfl, ?_⟩
    rw [e2] at q3 ⊢
    have := h.le (Nat.le_succ n)
    exact ⟨q3, this.asc, this.ok, this.root, this.len, this.num⟩

/-! ### Set -/
theorem Mod.put {k : List UInt8} {a : NodeT} (hk : k ∈ keys M) (ha : okN (n + 1) a) : Mod (mput T k a) (mput M k a) (n + 1) := by
  have hk1 : keys (mput M k a) = keys M := by rw [keys_mput, if_pos hk]
  refine ⟨mput_perm h.perm h.nodup _ _, by rw [hk1]; exact h.asc, by rw [hk1]; exact h.ok, by rw [hk1]; exact h.root, by rw [length_mput, if_pos hk]; exact h.len, ?_⟩
  intro p hp
  rcases mem_mput hp with rfl | hp
  · exact ha
  · exact (h.num p hp).up
theorem Mod.at_in {s : List UInt8} {v : Int} (h0 : (Go.Proofs.YtanlobdidjednaaGreatDoor.atF M s v).2 = 0) : s ∈ keys M ∧ okN n (Go.Proofs.YtanlobdidjednaaGreatDoor.atF M s v).1 := by
  have h2 := at_get h0
  have h3 : Go.Proofs.YtanlobdidjednaaGreatDoor.atF M s v = Go.Proofs.YtanlobdidjednaaGreatDoor.getF M s := by
    unfold Go.Proofs.YtanlobdidjednaaGreatDoor.atF at h0 ⊢
    split
    · rename_i hc; rw [if_pos hc] at h0; simp at h0
    · rfl
  rw [h3]
  unfold Go.Proofs.YtanlobdidjednaaGreatDoor.getF at h2 ⊢
  split at h2
  · rename_i hc
    rw [if_pos hc]
    cases hm : mget M s with
    | none => rw [hm] at h2; simp at h2
    | some a => exact ⟨mem_keys_mget.2 ⟨a, hm⟩, h.at_ hm⟩
  · rename_i hc
    exact absurd h2 hc
theorem Mod.at_ver (s : List UInt8) (v : Int) : 0 ≤ (Go.Proofs.YtanlobdidjednaaGreatDoor.atF M s v).1.version ∧ (Go.Proofs.YtanlobdidjednaaGreatDoor.atF M s v).1.version ≤ n := by
  by_cases h0 : (Go.Proofs.YtanlobdidjednaaGreatDoor.atF M s v).2 = 0
  · have := (h.at_in h0).2
    exact ⟨this.1, this.2.1⟩
  · have : (Go.Proofs.YtanlobdidjednaaGreatDoor.atF M s v).1 = zN := by
      unfold Go.Proofs.YtanlobdidjednaaGreatDoor.atF at h0 ⊢
      split
      · rfl
      · rename_i hc
        rw [if_neg hc] at h0
        unfold Go.Proofs.YtanlobdidjednaaGreatDoor.getF at h0 ⊢
        split
        · rename_i h1
          rw [if_pos h1] at h0
          cases hm : mget M s with
          | none => rfl
          | some a => rw [hm] at h0; simp at h0
        · rfl
    rw [this]
    exact ⟨Int.le_refl _, Int.natCast_nonneg _⟩
theorem Mod.set (s data : List UInt8) (v when_ : Int) (hw : 0 ≤ when_ ∧ when_ ≤ 1000) :
    (setF T s data v when_).1 = (setF M s data v when_).1 ∧ (setF T s data v when_).2.1 = (setF M s data v when_).2.1 ∧ Mod (setF T s data v when_).2.2 (setF M s data v when_).2.2 (n + 1) := by
  unfold setF
  rw [h.atF]
  split
  · exact ⟨rfl, rfl, h.le (Nat.le_succ n)⟩
  · rename_i h0
    split
    · exact ⟨rfl, rfl, h.le (Nat.le_succ n)⟩
    · rename_i h60
      simp only [ne_eq, Decidable.not_not] at h0
      obtain ⟨hin, h1, h2, h3, h4, h5, h6, h7, h8, h9, h10, h11, h12, h13⟩ := h.at_in h0
      refine ⟨rfl, rfl, h.put hin ?_⟩
      refine ⟨?_, ?_, h3, ?_, h5, ?_, h7, h8, h9, h10, hw.1, hw.2, ?_⟩ <;> simp only <;> omega

/-! ### Delete -/
omit h in
theorem Mod.kid_none {s : List UInt8} (hk : kidL M s = []) : ∀ k ∈ keys M, (upF k).1 ≠ s := by
  intro k hk' e
  obtain ⟨p, hp, rfl⟩ := List.mem_map.1 hk'
  have : (upF p.1).2 ∈ kidL M s := List.mem_map.2 ⟨p, List.mem_filter.2 ⟨hp, by simpa using e⟩, rfl⟩
  rw [hk] at this
  cases this
theorem Mod.delete (s : List UInt8) (v : Int) :
    (deleteF T s v).1 = (deleteF M s v).1 ∧ Mod (deleteF T s v).2 (deleteF M s v).2 (n + 1) := by
  have hkk : kidL T s = [] ↔ kidL M s = [] := by
    have := (kidL_perm h.perm s).length_eq
    rw [← List.length_eq_zero_iff, ← List.length_eq_zero_iff, this]
  unfold deleteF
  rw [h.atF, h.get]
  by_cases h0 : (Go.Proofs.YtanlobdidjednaaGreatDoor.atF M s v).2 = 0
  · have hz : ¬ ((Go.Proofs.YtanlobdidjednaaGreatDoor.atF M s v).2 ≠ 0) := by simp [h0]
    rw [if_neg hz, if_neg hz]
    by_cases h47 : s = [47]
    · rw [if_pos h47, if_pos h47]
      exact ⟨rfl, h.le (Nat.le_succ n)⟩
    · rw [if_neg h47, if_neg h47]
      by_cases hk : kidL M s = []
      · have hz1 : ¬ kidL M s ≠ [] := by simp [hk]
        have hz2 : ¬ kidL T s ≠ [] := by simp [hkk.2 hk]
        rw [if_neg hz1, if_neg hz2]
        obtain ⟨hin, hat⟩ := h.at_in h0
        have hup : (upF s).1 ∈ keys M := by
          rcases (h.ok s hin).2 with e | e
          · exact absurd e h47
          · exact e
        obtain ⟨a, ha⟩ := mem_keys_mget.1 hup
        have hao := h.at_ ha
        have hl : okN (n + 1) (lessN a) := by
          obtain ⟨r1, r2, r3, r4, r5, r6, r⟩ := hao
          exact ⟨r1, by simp only [lessN]; omega, by simp only [lessN]; omega, by simp only [lessN]; omega, r5, by simp only [lessN]; omega, r⟩
        rw [ha]
        have hm := h.put hup hl
        have hk1 : keys (mput M (upF s).1 (lessN a)) = keys M := by rw [keys_mput, if_pos hup]
        refine ⟨rfl, mdel_permT hm.perm _, ?_, ?_, ?_, ?_, ?_⟩
        · exact hm.asc.sublist (List.filter_sublist.map _)
        · intro k hk'
          rw [mem_keys_mdel] at hk'
          obtain ⟨k1, k2⟩ := hk'
          obtain ⟨r1, r2⟩ := hm.ok k k1
          refine ⟨r1, ?_⟩
          rcases r2 with r2 | r2
          · exact .inl r2
          · refine .inr (mem_keys_mdel.2 ⟨r2, ?_⟩)
            exact Mod.kid_none hk k (by rw [← hk1]; exact k1)
        · exact mem_keys_mdel.2 ⟨hm.root, fun e => h47 e.symm⟩
        · have h1 := hm.len
          have h2 : (mdel (mput M (upF s).1 (lessN a)) s).length ≤ (mput M (upF s).1 (lessN a)).length := List.length_filter_le _ _
          exact Nat.le_trans h2 h1
        · exact fun p hp => hm.num p (mem_mdel hp).1
      · have hz1 : kidL M s ≠ [] := hk
        have hz2 : kidL T s ≠ [] := fun e => hk (hkk.1 e)
        rw [if_pos hz1, if_pos hz2]
        exact ⟨rfl, h.le (Nat.le_succ n)⟩
  · rw [if_pos h0, if_pos h0]
    exact ⟨rfl, h.le (Nat.le_succ n)⟩
end
end

end Go.Proofs.YtanlobdidjednaaGreatDoor
