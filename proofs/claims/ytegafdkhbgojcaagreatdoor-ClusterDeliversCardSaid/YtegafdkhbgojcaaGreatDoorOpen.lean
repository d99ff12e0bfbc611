/- How arguments are read, over any program: integers, bools, texts, slices and structs of these, as lists and pairs. No condition. -/
import Derived.Test.YtegafdkhbgojcaaGreatDoorLow
import Derived.OpenShut
import Derived.ShutString
import Derived.ChangeOld
import Derived.Deep.Slices
import Derived.Deep.Fields
import Derived.ChangeSame
set_option linter.unusedVariables false
set_option linter.unusedSectionVars false
namespace Go.Proofs.YtegafdkhbgojcaaGreatDoor
open Go.RowKit Go.ChangeShapes Go.WideShapes Go.Deep

section
variable {H : Type} {enc : TypeId × Value → H} {P : Program} {w : World} {base : Nat} {spare : Nat → Bool} {held : Bool}

/-- whatever reads at type e is 'f a' of some good a -/
def Dec (enc : TypeId × Value → H) (P : Program) (w : World) (base : Nat) (spare : Nat → Bool) (held : Bool) (e : TypeId) {α : Type} (f : α → List Value) (good : α → Prop) : Prop :=
  ∀ fuel cs x, DataW.trod enc P w base spare held fuel e cs = some x → ∃ a, cs = f a ∧ good a

theorem dec_int {e : TypeId} (he : P.underlying e = some (.int .i64)) : Dec enc P w base spare held e (fun n : Int => [.int .i64 n]) (fun n => -9223372036854775808 ≤ n ∧ n ≤ 9223372036854775807) := by
  intro fuel cs x h
  obtain ⟨n, rfl, _, hw⟩ := DataW.trod_int he h
  refine ⟨n, rfl, ?_⟩
  simpa [Lit.wf, IntKind.wrap, IntKind.min, IntKind.max] using bounds_i64 hw
theorem dec_bool {e : TypeId} (he : P.underlying e = some .bool) : Dec enc P w base spare held e (fun b : Bool => [.bool b]) (fun _ => True) := by
  intro fuel cs x h
  obtain ⟨n, rfl, _⟩ := DataW.trod_bool he h
  exact ⟨n, rfl, trivial⟩
theorem dec_string {e : TypeId} (he : P.underlying e = some .string) : Dec enc P w base spare held e (fun s : List UInt8 => [.string (S s)]) (fun s => s.length ≤ 9223372036854775807) := by
  intro fuel cs x h
  obtain ⟨s, rfl, _, hs⟩ := DataW.trod_string he h
  refine ⟨s.data.toList, by show [Value.string s] = [.string (S s.data.toList)]; rw [← S_surj], ?_⟩
  have e : s.size = s.data.toList.length := by
    have := congrArg ByteArray.size (S_surj s)
    rw [S_size] at this
    exact this
  unfold maxLen at hs
  show s.data.toList.length ≤ _
  omega

/-- a slice: its address, its capacity, its elements -/
theorem dec_slice {t e : TypeId} (ht : P.underlying t = some (.slice e)) {α : Type} {f : α → List Value} {good : α → Prop} (hd : Dec enc P w base spare held e f good) :
    Dec enc P w base spare held t (fun q : Option Addr × Nat × List α => [.slice q.1 q.2.2.length q.2.1]) (fun q => Src w (P.cellsOf e) q.1 q.2.2.length (q.2.2.flatMap f) ∧ (∀ a ∈ q.2.2, good a) ∧ q.2.2.length ≤ 9223372036854775807) := by
  intro fuel cs x h
  rcases open_slice ht h with ⟨rfl, _⟩ | ⟨a, len, cap, m, n, D, Pl, rfl, hb, hl, hm, hmm, hx, hi⟩
  · exact ⟨(none, 0, []), rfl, Src.nil _ _ _, by simp, by simp⟩
  · have hlm : len ≤ m := by rw [hmm]; split <;> omega
    have key : ∀ k, k ≤ len → ∃ as : List α, as.length = k ∧ (as.flatMap f).length = k * P.cellsOf e ∧ (∀ a ∈ as, good a) ∧ ∀ j u, (as.flatMap f)[j]? = some u → w.cell? (a.add j) = some u := by
      intro k
      induction k with
      | zero => exact fun _ => ⟨[], rfl, by simp, by simp, by simp⟩
      | succ k ih =>
        intro hk
        obtain ⟨as, h1, h2, h3, h4⟩ := ih (by omega)
        obtain ⟨cs', hc, ht'⟩ := hi k (by omega)
        obtain ⟨b, rfl, hg⟩ := hd _ _ _ ht'
        obtain ⟨_, hcl, hat⟩ := World.cells?_some hc
        refine ⟨as ++ [b], by simp [h1], by simp [h2, hcl, Nat.succ_mul], ?_, ?_⟩
        · intro a' ha
          rcases List.mem_append.1 ha with ha | ha
          · exact h3 a' ha
          · simp at ha; subst ha; exact hg
        · intro j u hu
          simp only [List.flatMap_append, List.flatMap_cons, List.flatMap_nil, List.append_nil] at hu
          rcases Nat.lt_or_ge j (as.flatMap f).length with hj | hj
          · rw [List.getElem?_append_left hj] at hu
            exact h4 j u hu
          · rw [List.getElem?_append_right hj] at hu
            have hjl := (List.getElem?_eq_some_iff.1 hu).1
            have := hat (j - (as.flatMap f).length) (by omega)
            rw [hu, Go.Deep.add_add] at this
            rw [← this]
            congr 2
            omega
    obtain ⟨as, h1, h2, h3, h4⟩ := key len (Nat.le_refl _)
    subst h1
    refine ⟨(some a, cap, as), rfl, ⟨h2, fun _ => ⟨a, rfl, h4⟩⟩, h3, ?_⟩
    unfold maxLen at hm
    show as.length ≤ _
    omega

/-- a struct of one-cell fields: field by field -/
theorem dec_fields {t : TypeId} {fs : Array Field} (ht : P.underlying t = some (.struct fs)) (hone : oneCellFields P fs = true) (hC : P.cellsOf t = fs.size) {fuel : Nat} {cs : List Value} {x : DataW H × List MemPlace}
    (h : DataW.trod enc P w base spare held fuel t cs = some x) :
    cs.length = fs.size ∧ ∃ n, ∀ (i : Nat) (f : Field), fs[i]? = some f → ∃ v y, cs[i]? = some v ∧ DataW.trod enc P w base spare held n f.type [v] = some y := by
  obtain ⟨ys, n, _, _, hlen, hyl, hf⟩ := DataW.trod_struct ht h
  refine ⟨hlen.trans hC, n, fun i f hi => ?_⟩
  obtain ⟨ho, hk⟩ := hone_of hone i f hi
  have hil : i < fs.size := (Array.getElem?_eq_some_iff.1 hi).1
  have h1 := hf i f hi
  rw [ho, hk] at h1
  have e : (cs.drop i).take 1 = [cs[i]'(by omega)] := by
    rw [List.drop_eq_getElem_cons (by omega)]
    rfl
  rw [e] at h1
  exact ⟨_, _, List.getElem?_eq_getElem (by omega), h1.trans (List.getElem?_eq_getElem (by omega))⟩
end

section
variable {H : Type} {enc : TypeId × Value → H} {P : Program} {w : World} {base : Nat} {spare : Nat → Bool} {held : Bool} {r : Reach} {b0 : Nat}
/-- a parameter of one cell -/
theorem par_one {t : TypeId} {v : Value} {d : DataW H} {p : List MemPlace} {α : Type} {f : α → Value} {good : α → Prop} (hd : Dec enc P w base spare held t (fun a => [f a]) good) (h : DataW.Trod enc P w base spare held t v d p)
    (h1 : v.cells = #[v]) : ∃ a, v = f a ∧ good a := by
  obtain ⟨fuel, hf⟩ := h
  rw [h1] at hf
  obtain ⟨a, ha, hg⟩ := hd _ _ _ hf
  simp only [List.cons.injEq, and_true] at ha
  exact ⟨a, ha, hg⟩
theorem par_slice {t e : TypeId} (ht : P.underlying t = some (.slice e)) {v : Value} {d : DataW H} {p : List MemPlace} (hv : Value.okWide P w r b0 t v) {α : Type} {f : α → List Value} {good : α → Prop} (hd : Dec enc P w base spare held e f good) (h : DataW.Trod enc P w base spare held t v d p) :
    ∃ (A : Option Addr) (c : Nat) (as : List α), v = .slice A as.length c ∧ Src w (P.cellsOf e) A as.length (as.flatMap f) ∧ (∀ a ∈ as, good a) ∧ as.length ≤ 9223372036854775807 := by
  obtain ⟨a, l, c, rfl⟩ := okWide_slice ht hv
  obtain ⟨q, hq, hg⟩ := par_one (dec_slice ht hd) h rfl
  exact ⟨q.1, q.2.1, q.2.2, hq, hg⟩
theorem par_int {t : TypeId} (ht : P.underlying t = some (.int .i64)) {v : Value} {d : DataW H} {p : List MemPlace} (hv : Value.okWide P w r b0 t v) (h : DataW.Trod enc P w base spare held t v d p) :
    ∃ n : Int, v = .int .i64 n ∧ -9223372036854775808 ≤ n ∧ n ≤ 9223372036854775807 := by
  obtain ⟨n, rfl⟩ := okWide_int ht hv
  exact par_one (dec_int ht) h rfl
theorem par_string {t : TypeId} (ht : P.underlying t = some .string) {v : Value} {d : DataW H} {p : List MemPlace} (hv : Value.okWide P w r b0 t v) (h : DataW.Trod enc P w base spare held t v d p) :
    ∃ s : List UInt8, v = .string (S s) ∧ s.length ≤ 9223372036854775807 := by
  obtain ⟨n, rfl⟩ := okWide_string ht hv
  exact par_one (dec_string ht) h rfl
end

theorem flatMap_Is (ns : List Int) : (ns.flatMap fun n => [Value.int .i64 n]) = Is ns := by
  unfold Is
  induction ns with
  | nil => rfl
  | cons a r ih => simp [ih]
theorem flatMap_Ss (ss : List (List UInt8)) : (ss.flatMap fun s => [Value.string (S s)]) = ss.map fun s => Value.string (S s) := by
  induction ss with
  | nil => rfl
  | cons a r ih => simp [ih]

theorem flatMap_one {α : Type} (f : α → Value) (l : List α) : (l.flatMap fun a => [f a]) = l.map f := by
  induction l with
  | nil => rfl
  | cons a r ih => simp [ih]

end Go.Proofs.YtegafdkhbgojcaaGreatDoor
