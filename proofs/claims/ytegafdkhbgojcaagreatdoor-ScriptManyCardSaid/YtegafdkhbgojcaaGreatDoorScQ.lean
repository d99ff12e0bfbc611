/- Steps of a script where they lie. No condition. -/
import Derived.Test.YtegafdkhbgojcaaGreatDoorScA
set_option linter.unusedVariables false
set_option linter.unusedSimpArgs false
namespace Go.Proofs.YtegafdkhbgojcaaGreatDoor
open Go.RowKit

/-- a step, and where its fates lie -/
abbrev SQ := StepT × Option Addr × Nat
def sqL (q : SQ) : List Value := stL q.1 q.2.1 q.2.2
def SqOk (w : World) (q : SQ) : Prop := Src w 1 q.2.1 q.1.fates.length (Is q.1.fates) ∧ q.1.fates.length ≤ 9223372036854775807 ∧ q.1.text.length ≤ 9223372036854775807
theorem SqOk.keep {W w : World} {q : SQ} (h : SqOk W q) (hk : Keeps (fun _ => False) W w) : SqOk w q := ⟨h.1.keep hk (fun _ _ h => h), h.2⟩
theorem flat_atS {α : Type} (f : α → List Value) (n : Nat) (hn : ∀ a, (f a).length = n) (l : List α) (k : Nat) (a : α) (h : l[k]? = some a) (j : Nat) (u : Value) (hj : (f a)[j]? = some u) : (l.flatMap f)[k * n + j]? = some u := by
  induction l generalizing k with
  | nil => simp at h
  | cons x l ih =>
    cases k with
    | zero =>
      simp only [List.getElem?_cons_zero, Option.some.injEq] at h
      subst h
      have hlt : j < (f x).length := (List.getElem?_eq_some_iff.1 hj).1
      rw [List.flatMap_cons, Nat.zero_mul, Nat.zero_add, List.getElem?_append_left hlt]
      exact hj
    | succ k =>
      simp only [List.getElem?_cons_succ] at h
      have := ih k h
      rw [List.flatMap_cons, List.getElem?_append_right (by rw [hn]; rw [Nat.succ_mul]; omega), hn]
      rw [show (k + 1) * n + j - n = k * n + j by rw [Nat.succ_mul]; omega]
      exact this
theorem sqs_at {w : World} {A : Option Addr} {qs : List SQ} (h : Src w 6 A qs.length (qs.flatMap sqL)) {k : Nat} (hk : k < qs.length) :
    ∃ ad q, A = some ad ∧ qs[k]? = some q ∧ w.cell? (ad.add (k * 6)) = some (.int .i64 q.1.kind) ∧ w.cell? ⟨(ad.add (k * 6)).block, (ad.add (k * 6)).off + 1, none⟩ = some (.int .i64 q.1.who) ∧ w.cell? ⟨(ad.add (k * 6)).block, (ad.add (k * 6)).off + 2, none⟩ = some (.int .i64 q.1.n) ∧
      w.cell? ⟨(ad.add (k * 6)).block, (ad.add (k * 6)).off + 3, none⟩ = some (.int .i64 q.1.m) ∧ w.cell? ⟨(ad.add (k * 6)).block, (ad.add (k * 6)).off + 4, none⟩ = some (.string (S q.1.text)) ∧ w.cell? ⟨(ad.add (k * 6)).block, (ad.add (k * 6)).off + 5, none⟩ = some (.slice q.2.1 q.1.fates.length q.2.2) := by
  obtain ⟨ad, e, hc⟩ := h.2 (by omega)
  have ha := List.getElem?_eq_getElem hk
  have hf := flat_atS sqL 6 (fun _ => rfl) qs k _ ha
  refine ⟨ad, qs[k], e, ha, hc _ _ (hf 0 _ rfl), ?_, ?_, ?_, ?_, ?_⟩
  · rw [← add_succ, add_add]; exact hc _ _ (hf 1 _ rfl)
  · rw [← add_succ, add_add]; exact hc _ _ (hf 2 _ rfl)
  · rw [← add_succ, add_add]; exact hc _ _ (hf 3 _ rfl)
  · rw [← add_succ, add_add]; exact hc _ _ (hf 4 _ rfl)
  · rw [← add_succ, add_add]; exact hc _ _ (hf 5 _ rfl)
theorem stepB_length (s : StepT) (h : stepR s = true) : (stepB s).length ≤ 1200 := by
  obtain ⟨-, -, -, h4, h5, -⟩ := stepR_of h
  have h6 := txt_length s.text
  have h7 : (cut16 s.text).length ≤ s.text.length := List.length_take_le' _ _
  simp only [stepB, List.length_append, nums_length, List.length_cons, List.length_nil, txts, List.flatMap_cons, List.flatMap_nil, h6]
  omega
theorem steps_length (l : List StepT) (h : ∀ s ∈ l, stepR s = true) : (l.flatMap stepB).length ≤ 1200 * l.length := by
  induction l with
  | nil => simp
  | cons s l ih =>
    have h1 := stepB_length s (h s List.mem_cons_self)
    have h2 := ih fun x hx => h x (List.mem_cons_of_mem _ hx)
    rw [List.flatMap_cons, List.length_append, List.length_cons]
    omega
theorem steps_take (l : List SQ) (k : Nat) (q : SQ) (h : l[k]? = some q) : ((l.take (k + 1)).map (·.1)).flatMap stepB = ((l.take k).map (·.1)).flatMap stepB ++ stepB q.1 := by
  obtain ⟨hk, rfl⟩ := List.getElem?_eq_some_iff.1 h
  rw [List.take_succ_eq_append_getElem hk, List.map_append, List.flatMap_append]
  simp only [List.map_cons, List.map_nil, List.flatMap_cons, List.flatMap_nil, List.append_nil]
/-- what comes of steps -/
def bytesS (l : List StepT) : List UInt8 × Int := if 500 < l.length then ([], 3) else if l.all stepR = true then (stepsB l, 0) else ([], 1)
theorem Sat.srcR {g w : World} {L : List Asn} {e : TypeId} {size n : Nat} {A : Option Addr} {cap : Nat} {xs : List Value} (S : Sat g w (rowA e size (.slice A n cap) n xs :: L)) : Src w size A n xs := by
  obtain ⟨A', cap', e', _, _, hsrc, _⟩ := S.row.form
  injection e' with e1 e2 e3
  subst e1
  exact hsrc
theorem nums_snoc (l : List Int) (k : Nat) (f : Int) (h : l[k]? = some f) : nums (l.take (k + 1)) = nums (l.take k) ++ nums [f] := by
  rw [nums_take l k f h]; rfl

end Go.Proofs.YtegafdkhbgojcaaGreatDoor
