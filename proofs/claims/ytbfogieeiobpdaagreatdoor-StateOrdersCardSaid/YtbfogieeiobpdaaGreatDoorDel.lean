/- slices.IndexFunc and slices.DeleteFunc at watches and events, with a closure that may turn memory of its own. No condition. -/
import Derived.Test.YtbfogieeiobpdaaGreatDoorFullM
import Derived.Test.YtbfogieeiobpdaaGreatDoorWat
import Derived.Shelf.Abstract
set_option linter.unusedVariables false
set_option linter.unusedSimpArgs false
namespace Go.Proofs.YtbfogieeiobpdaaGreatDoor
open Go.RowKit

/-- an event: session, number, path, what, when -/
structure EvT where
  session : Int
  no : Int
  path : List UInt8
  what : Int
  when_ : Int
deriving DecidableEq
def evC (e : EvT) : List Value := [.int .i64 e.session, .int .i64 e.no, .string (S e.path), .int .i64 e.what, .int .i64 e.when_]
abbrev evV (e : EvT) : Value := .agg #[.int .i64 e.session, .int .i64 e.no, .string (S e.path), .int .i64 e.what, .int .i64 e.when_]
theorem watC_one (a : WatT) : ∀ u ∈ watC a, u.oneCell' = true := by
  intro u hu
  simp only [watC, List.mem_cons, List.not_mem_nil, or_false] at hu
  rcases hu with rfl | rfl | rfl | rfl <;> rfl
theorem evC_one (a : EvT) : ∀ u ∈ evC a, u.oneCell' = true := by
  intro u hu
  simp only [evC, List.mem_cons, List.not_mem_nil, or_false] at hu
  rcases hu with rfl | rfl | rfl | rfl | rfl <;> rfl
theorem slW : Sl Tryz.prog 28 96 4 32 (.agg #[.int .i64 0, .string ⟨#[]⟩, .bool false, .bool false]) := Sl.mk' Tryz.underlying28 (by kernel_rfl) rfl (by decide)
theorem slV : Sl Tryz.prog 29 74 5 48 (.agg #[.int .i64 0, .int .i64 0, .string ⟨#[]⟩, .int .i64 0, .int .i64 0]) := Sl.mk' Tryz.underlying29 (by kernel_rfl) rfl (by decide)

/-- what is asked of the closure: at the k-th element it hands back p of it, and turns I k into I (k + 1), whatever else there is -/
def Dels {α : Type} (P : Program) (gF : Nat) (lb : Array Value) (g : World) (enc : α → Value) (xs : List α) (p : α → Bool) (I : Nat → List Asn) : Prop :=
  ∀ (k : Nat) (x : α) (A : Asn) (w : World), xs[k]? = some x → Sat g w (A :: I k) → Calls P gF (#[enc x] ++ lb) w fun e w' => e = .returned (.bool (p x)) ∧ Sat g w' (A :: I (k + 1))

theorem filt_step {α : Type} {xs : List α} {p : α → Bool} {k : Nat} {x : α} (h : xs[k]? = some x) : (xs.take (k + 1)).filter (fun x => !p x) = (xs.take k).filter (fun x => !p x) ++ if p x = true then [] else [x] := by
  obtain ⟨hk, rfl⟩ := List.getElem?_eq_some_iff.1 h
  rw [List.take_succ_eq_append_getElem hk, List.filter_append]
  congr 1
  cases hp : p xs[k] <;> simp [hp]
theorem filt_none {α : Type} {xs : List α} {p : α → Bool} (h : ∀ x ∈ xs, p x = false) : xs.filter (fun x => !p x) = xs := by
  rw [List.filter_eq_self]
  intro x hx
  simp [h x hx]
theorem filt_hit {α : Type} {xs : List α} {p : α → Bool} {k : Nat} {x : α} (h : xs[k]? = some x) (hp : p x = true) : ((xs).filter (fun x => !p x)).length < xs.length := by
  have hm := List.mem_of_getElem? h
  have h1 := List.length_filter_le (fun x => !p x) xs
  rcases Nat.lt_or_ge ((xs).filter (fun x => !p x)).length xs.length with h2 | h2
  · exact h2
  · have := List.filter_eq_self.1 (List.Sublist.eq_of_length (List.filter_sublist (l := xs) (p := fun x => !p x)) (by omega)) x hm
    simp [hp] at this
theorem lay_next {l : List Value} {o : Nat} {cs : List Value} (h : o + cs.length ≤ l.length) : (lay l o cs).take (o + cs.length) = l.take o ++ cs := by
  unfold lay
  rw [List.take_append, List.take_of_length_le (by simp; omega)]
  simp
  omega
theorem lay_behind {l : List Value} {o m : Nat} {cs : List Value} (h : o + cs.length ≤ m) (hm : m ≤ l.length) : (lay l o cs).drop m = l.drop m := by
  unfold lay
  rw [List.drop_append, List.drop_eq_nil_of_le (by simp; omega), List.nil_append, List.drop_drop]
  congr 1
  simp
  omega
theorem lay_ahead {l : List Value} {o m : Nat} {cs : List Value} (h : m ≤ o) (ho : o ≤ l.length) : (lay l o cs).take m = l.take m := by
  unfold lay
  rw [List.append_assoc, List.take_append_of_le_length (by simp; omega), List.take_take, Nat.min_eq_left h]

/-! ### watches -/
theorem wat_at {w : World} {A : Option Addr} {xs : List WatT} (h : Src w 4 A xs.length (xs.flatMap watC)) {k : Nat} (hk : k < xs.length) :
    ∃ ad x, A = some ad ∧ xs[k]? = some x ∧ w.cell? (ad.add (k * 4)) = some (.int .i64 x.session) ∧ w.cell? ⟨(ad.add (k * 4)).block, (ad.add (k * 4)).off + 1, none⟩ = some (.string (Go.Proofs.YtbfogieeiobpdaaGreatDoor.S x.path)) ∧ w.cell? ⟨(ad.add (k * 4)).block, (ad.add (k * 4)).off + 2, none⟩ = some (.bool x.kids) ∧ w.cell? ⟨(ad.add (k * 4)).block, (ad.add (k * 4)).off + 3, none⟩ = some (.bool x.once) := by
  obtain ⟨ad, e, hc⟩ := h.2 (by omega)
  have ha := List.getElem?_eq_getElem hk
  have hf := flatK_at (f := watC) (n := 4) (fun _ => rfl) xs k _ ha
  refine ⟨ad, xs[k], e, ha, hc _ _ (hf 0 _ rfl), ?_, ?_, ?_⟩
  · rw [← add_succ, add_add]; exact hc _ _ (hf 1 _ rfl)
  · rw [← add_succ, add_add]; exact hc _ _ (hf 2 _ rfl)
  · rw [← add_succ, add_add]; exact hc _ _ (hf 3 _ rfl)
section
variable {g w : World} {xs : List WatT} {p : WatT → Bool} {I : Nat → List Asn} {gF : Nat} {lb : Array Value}
set_option maxRecDepth 100000 in
theorem idx_wat {A : Option Addr} {c : Nat} (hD : Dels Tryz.prog gF lb g watV xs p I) (eg : ∀ args w, (callFunc gF args).run Tryz.prog w = .ok (.enter gF args) w) (S : Sat g w (rowA 96 4 (.slice A xs.length c) xs.length (xs.flatMap watC) :: I 0)) (hl : xs.length ≤ 1000000) :
    Calls Tryz.prog 117 #[.slice A xs.length c, .func (.func gF) #[] lb] w fun e w' =>
      ∃ r : Int, e = .returned (.int .i64 r) ∧ ((∃ (k : Nat) (x : WatT), r = k ∧ xs[k]? = some x ∧ p x = true ∧ (∀ q ∈ xs.take k, p q = false) ∧ Sat g w' (rowA 96 4 (.slice A xs.length c) xs.length (xs.flatMap watC) :: I (k + 1))) ∨
      (r = -1 ∧ (∀ q ∈ xs, p q = false) ∧ Sat g w' (rowA 96 4 (.slice A xs.length c) xs.length (xs.flatMap watC) :: I xs.length))) := by
  have HD := hide hD
  clear hD
  go_enter Tryz.func117, Tryz.ntmps117
  go_wp2_with fail
  go_loopw [5, 8] (fun _ i wr => ∃ k : Nat, k ≤ xs.length ∧ i = .int .i64 k ∧ (∀ q ∈ xs.take k, p q = false) ∧ Sat g wr (rowA 96 4 (.slice A xs.length c) xs.length (xs.flatMap watC) :: I k)) (fun _ i _ => xs.length - (RowKit.intOf i).toNat)
  case atStart => exact ⟨0, by omega, rfl, by simp, S⟩
  case round =>
    obtain ⟨k, hk, rfl, hall, S1⟩ := hrel
    have HA := hide hall
    clear hall S
    have hk0 : (0 : Int) ≤ k := by omega
    by_cases hlt : k < xs.length
    · have hk1 : (k : Int) < xs.length := by omega
      obtain ⟨ad, x, rfl, hx, d0, d1, d2, d3⟩ := wat_at S1.srcR hlt
      have hcall := HD.out k x _ wr hx S1
      have HX := hide hx
      clear hx
      obtain ⟨pb, hpb⟩ : ∃ b, p x = b := ⟨_, rfl⟩
      rw [hpb] at hcall
      have HP := hide hpb
      clear hpb
      obtain ⟨f0, f1, f2, f3⟩ := x
      simp only at d0 d1 d2 d3
      cases pb
      · go_wp2_with (go_at_fn gF; refine hcall.mono ?_; rintro e w2 ⟨rfl, S2⟩)
        go_roundw
        case rel =>
          refine ⟨k + 1, by omega, by go_num, ?_, S2⟩
          obtain ⟨hk', e1⟩ := List.getElem?_eq_some_iff.1 HX.out
          rw [List.take_succ_eq_append_getElem hk', e1]
          intro q hq
          rcases List.mem_append.1 hq with hq | hq
          · exact HA.out q hq
          · simp at hq; subst hq; exact HP.out
        case measure => simp [RowKit.intOf]; omega
      · go_wp2_with (go_at_fn gF; refine hcall.mono ?_; rintro e w2 ⟨rfl, S2⟩)
        go_ret
        exact ⟨_, rfl, .inl ⟨k, _, rfl, HX.out, HP.out, HA.out, S2⟩⟩
    · obtain rfl : k = xs.length := by omega
      go_wp2_with fail
      go_ret
      refine ⟨_, rfl, .inr ⟨rfl, ?_, S1⟩⟩
      have := HA.out
      rw [List.take_length] at this
      exact this

set_option maxRecDepth 100000 in
set_option maxHeartbeats 4000000 in
theorem del_wat {v : Value} (hD : Dels Tryz.prog gF lb g watV xs p I) (eg : ∀ args w, (callFunc gF args).run Tryz.prog w = .ok (.enter gF args) w) (S : Sat g w (rowA 96 4 v xs.length (xs.flatMap watC) :: I 0)) (hl : xs.length ≤ 1000000) :
    Calls Tryz.prog 82 #[v, .func (.func gF) #[] lb] w fun e w' =>
      ∃ v', e = .returned v' ∧ Sat g w' (rowA 96 4 v' (xs.filter fun x => !p x).length ((xs.filter fun x => !p x).flatMap watC) :: I xs.length) := by
  obtain ⟨A, c, rfl, -⟩ := S.row.form
  have HD := hide hD
  go_enter Tryz.func82, Tryz.ntmps82
  go_wp2_with fail
  refine (idx_wat hD eg S hl).mono ?_
  clear hD
  rintro e w1 ⟨r, rfl, hr⟩
  rcases hr with ⟨k0, x0, rfl, hx0, hp0, ha0, S1⟩ | ⟨rfl, ha, S1⟩
  · have hk0 := (List.getElem?_eq_some_iff.1 hx0).1
    cases A with
    | none =>
      exfalso
      rcases S1.row.2 with h | h
      · omega
      · obtain ⟨_, _, _, h, _⟩ := h
        cases h
    | some ad =>
    obtain ⟨b, cur0, had, q1, q2, q3, q4, S2⟩ := S1.rowOpen
    have HAD := hide had
    have hi0 : ((k0 : Int) == -1) = false := by first | (simp; done) | (simp; omega)
    have hi1 : ¬ ((k0 : Int) = -1) := by omega
    have hf0 : (xs.take (k0 + 1)).filter (fun x => !p x) = xs.take k0 := by
      rw [filt_step hx0, filt_none ha0, hp0]; simp
    have HN := hide (filt_hit hx0 hp0)
    have HF0 := hide hf0
    clear hx0 hp0 ha0 hf0
    clear had S1 S
    have HQ4 := hide q4
    have hxl : (xs.flatMap watC).length = xs.length * 4 := flatK_len (f := watC) (n := 4) (fun _ => rfl) xs
    clear q4
    dsimp only
    go_wp2_with fail
    go_loopw [5, 6] (fun i j wr => ∃ (a m : Nat) (cur : List Value), m ≤ xs.length ∧ a = ((xs.take m).filter fun x => !p x).length ∧ a < m ∧ i = .int .i64 a ∧ j = .int .i64 m ∧ cur.length = c * 4 ∧ cur.take (a * 4) = ((xs.take m).filter fun x => !p x).flatMap watC ∧ cur.drop (m * 4) = cur0.drop (m * 4) ∧ Sat g wr (cellsA b 96 cur.toArray :: I m)) (fun _ j _ => xs.length - (RowKit.intOf j).toNat)
    case atStart =>
      refine ⟨k0, k0 + 1, cur0, by omega, ?_, by omega, rfl, by go_num, q3, ?_, rfl, S2⟩
      · rw [HF0.out, List.length_take]; omega
      · rw [HF0.out, ← flatK_take (f := watC) (n := 4) (fun _ => rfl), ← HQ4.out, List.take_take, Nat.min_eq_left (Nat.mul_le_mul_right _ (by omega))]
    case round =>
      obtain ⟨a, m, cur, hm, ha, ham, rfl, rfl, r1, r2, r3, S3⟩ := hrel
      have HR2 := hide r2
      have HR3 := hide r3
      have HFA := hide ha
      clear r2 r3 ha S2
      by_cases hlt : m < xs.length
      · obtain ⟨x, hx⟩ : ∃ x, xs[m]? = some x := ⟨_, List.getElem?_eq_getElem hlt⟩
        have hcell : ∀ (j : Nat) (u : Value), (watC x)[j]? = some u → wr.cell? ⟨b, m * 4 + j, none⟩ = some u := fun j u hu => by
          refine S3.cellL _ _ ?_
          have h1 := flatK_at (f := watC) (n := 4) (fun _ => rfl) xs m _ hx j u hu
          have h2 : (cur.drop (m * 4))[j]? = (cur0.drop (m * 4))[j]? := by rw [HR3.out]
          rw [List.getElem?_drop, List.getElem?_drop] at h2
          rw [h2]
          rw [← HQ4.out, List.getElem?_take] at h1
          split at h1
          · exact h1
          · cases h1
        have hz : ∀ (j : Nat) (u : Value), (watC x)[j]? = some u → wr.cell? ⟨(ad.add (m * 4)).block, (ad.add (m * 4)).off + j, none⟩ = some u := fun j u hu => by
          have hc := hcell j u hu
          rw [HAD.out, addr_blk]
          exact hc
        have d0 : wr.cell? (ad.add (m * 4)) = some (.int .i64 x.session) := by
          have hc := hcell 0 _ rfl
          rw [HAD.out, addr_blk]
          exact hc
        have d1 : wr.cell? ⟨(ad.add (m * 4)).block, (ad.add (m * 4)).off + 1, none⟩ = some (.string (Go.Proofs.YtbfogieeiobpdaaGreatDoor.S x.path)) := hz 1 _ rfl
        have d2 : wr.cell? ⟨(ad.add (m * 4)).block, (ad.add (m * 4)).off + 2, none⟩ = some (.bool x.kids) := hz 2 _ rfl
        have d3 : wr.cell? ⟨(ad.add (m * 4)).block, (ad.add (m * 4)).off + 3, none⟩ = some (.bool x.once) := hz 3 _ rfl
        clear hcell hz
        have hcl : ∀ W, Sat g W (star (cellsA wr.heap.size 96 (watC x).toArray) (cellsA b 96 cur.toArray) :: I m) → _ := fun W S' => HD.out m x (star (cellsA wr.heap.size 96 (watC x).toArray) (cellsA b 96 cur.toArray)) W hx S'
        have HX := hide hx
        clear hx
        have hst := filt_step (p := p) HX.out
        have HST := hide hst
        obtain ⟨pb, hpb⟩ : ∃ b, p x = b := ⟨_, rfl⟩
        rw [hpb] at hcl HST
        clear hst hpb
        have HCL := hide hcl
        clear hcl
        obtain ⟨f0, f1, f2, f3⟩ := x
        simp only at d0 d1 d2 d3 HCL
        have S4 := (S3.box #[.int .i64 f0, .string (Go.Proofs.YtbfogieeiobpdaaGreatDoor.S f1), .bool f2, .bool f3] 96 rfl).join
        have hm0 : (0 : Int) ≤ m := by omega
        have hm1 : (m : Int) < xs.length := by omega
        have ha0 : (0 : Int) ≤ a := by omega
        have ha1 : (a : Int) < xs.length := by omega
        have hcall := HCL.out _ S4
        have hlp : b < wr.heap.size := heap_lt S3.cells_get
        cases pb
        · go_wp2_with (first
            | (go_at_fn gF; refine hcall.mono ?_; rintro e w5 ⟨rfl, S5⟩; have S6 := S5.split; have y0 := S6.p1; have e0 : w5.cell? ⟨wr.heap.size, 0, none⟩ = some (.int .i64 f0) := S6.cell 0 _ rfl; have e1 : w5.cell? ⟨wr.heap.size, 1, none⟩ = some (.string (Go.Proofs.YtbfogieeiobpdaaGreatDoor.S f1)) := S6.cell 1 _ rfl; have e2 : w5.cell? ⟨wr.heap.size, 2, none⟩ = some (.bool f2) := S6.cell 2 _ rfl; have e3 : w5.cell? ⟨wr.heap.size, 3, none⟩ = some (.bool f3) := S6.cell 3 _ rfl)
            | ((show Go.wpList _ _ _ (Oper.mk none (Op.store _ _ _) _ _ _ _ :: _) _ _); refine wpList_slay rfl _ (.tmp 33) (.tmp 32) rfl (b := b) (off := a * 4) y0 [.int .i64 f0, .string (Go.Proofs.YtbfogieeiobpdaaGreatDoor.S f1), .bool f2, .bool f3] (by rw [HAD.out, addr_blk]) rfl rfl (by kernel_rfl) (by simp [r1]; omega) (by simp [Value.oneCell']) ?_; intro w7 S7))
          go_roundw
          case rel =>
            have hst2 := HST.out
            refine ⟨a + 1, m + 1, _, by omega, ?_, by omega, by go_num, by go_num, ?_, ?_, ?_, S7.p1.drop⟩
            · rw [hst2, List.length_append, ← HFA.out]; simp
            · rw [lay_length _ _ _ (by simp [r1]; omega)]; exact r1
            · rw [hst2, List.flatMap_append, ← HR2.out, Nat.succ_mul]
              exact (lay_next (l := cur) (o := a * 4) (cs := [.int .i64 f0, .string (Go.Proofs.YtbfogieeiobpdaaGreatDoor.S f1), .bool f2, .bool f3]) (by simp [r1]; omega)).trans rfl
            · rw [lay_behind (by simp; omega) (by omega), Nat.succ_mul, ← List.drop_drop, HR3.out, List.drop_drop]
          case measure => simp [RowKit.intOf]; omega
        · go_wp2_with (go_at_fn gF; refine hcall.mono ?_; rintro e w5 ⟨rfl, S5⟩; have S6 := S5.split)
          go_roundw
          case rel =>
            have hst2 := HST.out
            simp only [if_true, List.append_nil] at hst2
            refine ⟨a, m + 1, cur, by omega, ?_, by omega, rfl, by go_num, r1, ?_, ?_, S6.drop⟩
            · rw [hst2]; exact HFA.out
            · rw [hst2]; exact HR2.out
            · rw [Nat.succ_mul, ← List.drop_drop, HR3.out, List.drop_drop]
          case measure => simp [RowKit.intOf]; omega
      · obtain rfl : m = xs.length := by omega
        have ht := HR2.out
        rw [List.take_length] at ht
        have HT := hide ht
        have hfa := HFA.out
        rw [List.take_length] at hfa
        have HFB := hide hfa
        clear ht hfa
        have hN := HN.out
        rw [← HFB.out] at hN
        have hb1 : (a : Int) ≤ (c : Int) := by omega
        have hb2 : ¬ (c = a) := by omega
        have hb3 : ¬ (c - a = 0) := by omega
        have hb4 : (0 : Int) ≤ (a : Int) := by omega
        have hb5 : (a : Int) ≤ (xs.length : Int) := by omega
        have hb6 : (xs.length : Int) ≤ (c : Int) := by omega
        go_wp2_with ((show Go.wpList _ _ _ (Oper.mk none (Op.call _) _ _ _ _ :: _) _ _); refine wpList_sclear slW (by simp [Value.cells, Value.oneCell']) rfl _ rfl S3 (off := a * 4) (by rw [HAD.out, addr_blk]) rfl (by omega) (by rw [r1, ← Nat.add_mul]; exact Nat.mul_le_mul_right _ (by omega)) ?_; intro w5 zs hzs S5)
        go_ret
        refine ⟨_, rfl, ?_⟩
        rw [← HFB.out, HAD.out]
        refine S5.rowShut (by omega) q2 ?_ ?_
        · rw [lay_length _ _ _ (by rw [hzs, r1, ← Nat.add_mul]; exact Nat.mul_le_mul_right _ (by omega))]; exact r1
        · rw [lay_ahead (Nat.le_refl _) (by rw [r1]; exact Nat.mul_le_mul_right _ (by omega))]
          exact HT.out
  · have HA := hide (filt_none ha)
    clear ha
    go_wp2_with fail
    go_ret
    refine ⟨_, rfl, ?_⟩
    rw [HA.out]
    exact S1
end

/-! ### events -/
theorem ev_at {w : World} {A : Option Addr} {xs : List EvT} (h : Src w 5 A xs.length (xs.flatMap evC)) {k : Nat} (hk : k < xs.length) :
    ∃ ad x, A = some ad ∧ xs[k]? = some x ∧ w.cell? (ad.add (k * 5)) = some (.int .i64 x.session) ∧ w.cell? ⟨(ad.add (k * 5)).block, (ad.add (k * 5)).off + 1, none⟩ = some (.int .i64 x.no) ∧ w.cell? ⟨(ad.add (k * 5)).block, (ad.add (k * 5)).off + 2, none⟩ = some (.string (Go.Proofs.YtbfogieeiobpdaaGreatDoor.S x.path)) ∧ w.cell? ⟨(ad.add (k * 5)).block, (ad.add (k * 5)).off + 3, none⟩ = some (.int .i64 x.what) ∧ w.cell? ⟨(ad.add (k * 5)).block, (ad.add (k * 5)).off + 4, none⟩ = some (.int .i64 x.when_) := by
  obtain ⟨ad, e, hc⟩ := h.2 (by omega)
  have ha := List.getElem?_eq_getElem hk
  have hf := flatK_at (f := evC) (n := 5) (fun _ => rfl) xs k _ ha
  refine ⟨ad, xs[k], e, ha, hc _ _ (hf 0 _ rfl), ?_, ?_, ?_, ?_⟩
  · rw [← add_succ, add_add]; exact hc _ _ (hf 1 _ rfl)
  · rw [← add_succ, add_add]; exact hc _ _ (hf 2 _ rfl)
  · rw [← add_succ, add_add]; exact hc _ _ (hf 3 _ rfl)
  · rw [← add_succ, add_add]; exact hc _ _ (hf 4 _ rfl)
section
variable {g w : World} {xs : List EvT} {p : EvT → Bool} {I : Nat → List Asn} {gF : Nat} {lb : Array Value}
set_option maxRecDepth 100000 in
theorem idx_ev {A : Option Addr} {c : Nat} (hD : Dels Tryz.prog gF lb g evV xs p I) (eg : ∀ args w, (callFunc gF args).run Tryz.prog w = .ok (.enter gF args) w) (S : Sat g w (rowA 74 5 (.slice A xs.length c) xs.length (xs.flatMap evC) :: I 0)) (hl : xs.length ≤ 1000000) :
    Calls Tryz.prog 119 #[.slice A xs.length c, .func (.func gF) #[] lb] w fun e w' =>
      ∃ r : Int, e = .returned (.int .i64 r) ∧ ((∃ (k : Nat) (x : EvT), r = k ∧ xs[k]? = some x ∧ p x = true ∧ (∀ q ∈ xs.take k, p q = false) ∧ Sat g w' (rowA 74 5 (.slice A xs.length c) xs.length (xs.flatMap evC) :: I (k + 1))) ∨
      (r = -1 ∧ (∀ q ∈ xs, p q = false) ∧ Sat g w' (rowA 74 5 (.slice A xs.length c) xs.length (xs.flatMap evC) :: I xs.length))) := by
  have HD := hide hD
  clear hD
  go_enter Tryz.func119, Tryz.ntmps119
  go_wp2_with fail
  go_loopw [5, 8] (fun _ i wr => ∃ k : Nat, k ≤ xs.length ∧ i = .int .i64 k ∧ (∀ q ∈ xs.take k, p q = false) ∧ Sat g wr (rowA 74 5 (.slice A xs.length c) xs.length (xs.flatMap evC) :: I k)) (fun _ i _ => xs.length - (RowKit.intOf i).toNat)
  case atStart => exact ⟨0, by omega, rfl, by simp, S⟩
  case round =>
    obtain ⟨k, hk, rfl, hall, S1⟩ := hrel
    have HA := hide hall
    clear hall S
    have hk0 : (0 : Int) ≤ k := by omega
    by_cases hlt : k < xs.length
    · have hk1 : (k : Int) < xs.length := by omega
      obtain ⟨ad, x, rfl, hx, d0, d1, d2, d3, d4⟩ := ev_at S1.srcR hlt
      have hcall := HD.out k x _ wr hx S1
      have HX := hide hx
      clear hx
      obtain ⟨pb, hpb⟩ : ∃ b, p x = b := ⟨_, rfl⟩
      rw [hpb] at hcall
      have HP := hide hpb
      clear hpb
      obtain ⟨f0, f1, f2, f3, f4⟩ := x
      simp only at d0 d1 d2 d3 d4
      cases pb
      · go_wp2_with (go_at_fn gF; refine hcall.mono ?_; rintro e w2 ⟨rfl, S2⟩)
        go_roundw
        case rel =>
          refine ⟨k + 1, by omega, by go_num, ?_, S2⟩
          obtain ⟨hk', e1⟩ := List.getElem?_eq_some_iff.1 HX.out
          rw [List.take_succ_eq_append_getElem hk', e1]
          intro q hq
          rcases List.mem_append.1 hq with hq | hq
          · exact HA.out q hq
          · simp at hq; subst hq; exact HP.out
        case measure => simp [RowKit.intOf]; omega
      · go_wp2_with (go_at_fn gF; refine hcall.mono ?_; rintro e w2 ⟨rfl, S2⟩)
        go_ret
        exact ⟨_, rfl, .inl ⟨k, _, rfl, HX.out, HP.out, HA.out, S2⟩⟩
    · obtain rfl : k = xs.length := by omega
      go_wp2_with fail
      go_ret
      refine ⟨_, rfl, .inr ⟨rfl, ?_, S1⟩⟩
      have := HA.out
      rw [List.take_length] at this
      exact this

set_option maxRecDepth 100000 in
set_option maxHeartbeats 4000000 in
theorem del_ev {v : Value} (hD : Dels Tryz.prog gF lb g evV xs p I) (eg : ∀ args w, (callFunc gF args).run Tryz.prog w = .ok (.enter gF args) w) (S : Sat g w (rowA 74 5 v xs.length (xs.flatMap evC) :: I 0)) (hl : xs.length ≤ 1000000) :
    Calls Tryz.prog 87 #[v, .func (.func gF) #[] lb] w fun e w' =>
      ∃ v', e = .returned v' ∧ Sat g w' (rowA 74 5 v' (xs.filter fun x => !p x).length ((xs.filter fun x => !p x).flatMap evC) :: I xs.length) := by
  obtain ⟨A, c, rfl, -⟩ := S.row.form
  have HD := hide hD
  go_enter Tryz.func87, Tryz.ntmps87
  go_wp2_with fail
  refine (idx_ev hD eg S hl).mono ?_
  clear hD
  rintro e w1 ⟨r, rfl, hr⟩
  rcases hr with ⟨k0, x0, rfl, hx0, hp0, ha0, S1⟩ | ⟨rfl, ha, S1⟩
  · have hk0 := (List.getElem?_eq_some_iff.1 hx0).1
    cases A with
    | none =>
      exfalso
      rcases S1.row.2 with h | h
      · omega
      · obtain ⟨_, _, _, h, _⟩ := h
        cases h
    | some ad =>
    obtain ⟨b, cur0, had, q1, q2, q3, q4, S2⟩ := S1.rowOpen
    have HAD := hide had
    have hi0 : ((k0 : Int) == -1) = false := by first | (simp; done) | (simp; omega)
    have hi1 : ¬ ((k0 : Int) = -1) := by omega
    have hf0 : (xs.take (k0 + 1)).filter (fun x => !p x) = xs.take k0 := by
      rw [filt_step hx0, filt_none ha0, hp0]; simp
    have HN := hide (filt_hit hx0 hp0)
    have HF0 := hide hf0
    clear hx0 hp0 ha0 hf0
    clear had S1 S
    have HQ4 := hide q4
    have hxl : (xs.flatMap evC).length = xs.length * 5 := flatK_len (f := evC) (n := 5) (fun _ => rfl) xs
    clear q4
    dsimp only
    go_wp2_with fail
    go_loopw [5, 6] (fun i j wr => ∃ (a m : Nat) (cur : List Value), m ≤ xs.length ∧ a = ((xs.take m).filter fun x => !p x).length ∧ a < m ∧ i = .int .i64 a ∧ j = .int .i64 m ∧ cur.length = c * 5 ∧ cur.take (a * 5) = ((xs.take m).filter fun x => !p x).flatMap evC ∧ cur.drop (m * 5) = cur0.drop (m * 5) ∧ Sat g wr (cellsA b 74 cur.toArray :: I m)) (fun _ j _ => xs.length - (RowKit.intOf j).toNat)
    case atStart =>
      refine ⟨k0, k0 + 1, cur0, by omega, ?_, by omega, rfl, by go_num, q3, ?_, rfl, S2⟩
      · rw [HF0.out, List.length_take]; omega
      · rw [HF0.out, ← flatK_take (f := evC) (n := 5) (fun _ => rfl), ← HQ4.out, List.take_take, Nat.min_eq_left (Nat.mul_le_mul_right _ (by omega))]
    case round =>
      obtain ⟨a, m, cur, hm, ha, ham, rfl, rfl, r1, r2, r3, S3⟩ := hrel
      have HR2 := hide r2
      have HR3 := hide r3
      have HFA := hide ha
      clear r2 r3 ha S2
      by_cases hlt : m < xs.length
      · obtain ⟨x, hx⟩ : ∃ x, xs[m]? = some x := ⟨_, List.getElem?_eq_getElem hlt⟩
        have hcell : ∀ (j : Nat) (u : Value), (evC x)[j]? = some u → wr.cell? ⟨b, m * 5 + j, none⟩ = some u := fun j u hu => by
          refine S3.cellL _ _ ?_
          have h1 := flatK_at (f := evC) (n := 5) (fun _ => rfl) xs m _ hx j u hu
          have h2 : (cur.drop (m * 5))[j]? = (cur0.drop (m * 5))[j]? := by rw [HR3.out]
          rw [List.getElem?_drop, List.getElem?_drop] at h2
          rw [h2]
          rw [← HQ4.out, List.getElem?_take] at h1
          split at h1
          · exact h1
          · cases h1
        have hz : ∀ (j : Nat) (u : Value), (evC x)[j]? = some u → wr.cell? ⟨(ad.add (m * 5)).block, (ad.add (m * 5)).off + j, none⟩ = some u := fun j u hu => by
          have hc := hcell j u hu
          rw [HAD.out, addr_blk]
          exact hc
        have d0 : wr.cell? (ad.add (m * 5)) = some (.int .i64 x.session) := by
          have hc := hcell 0 _ rfl
          rw [HAD.out, addr_blk]
          exact hc
        have d1 : wr.cell? ⟨(ad.add (m * 5)).block, (ad.add (m * 5)).off + 1, none⟩ = some (.int .i64 x.no) := hz 1 _ rfl
        have d2 : wr.cell? ⟨(ad.add (m * 5)).block, (ad.add (m * 5)).off + 2, none⟩ = some (.string (Go.Proofs.YtbfogieeiobpdaaGreatDoor.S x.path)) := hz 2 _ rfl
        have d3 : wr.cell? ⟨(ad.add (m * 5)).block, (ad.add (m * 5)).off + 3, none⟩ = some (.int .i64 x.what) := hz 3 _ rfl
        have d4 : wr.cell? ⟨(ad.add (m * 5)).block, (ad.add (m * 5)).off + 4, none⟩ = some (.int .i64 x.when_) := hz 4 _ rfl
        clear hcell hz
        have hcl : ∀ W, Sat g W (star (cellsA wr.heap.size 74 (evC x).toArray) (cellsA b 74 cur.toArray) :: I m) → _ := fun W S' => HD.out m x (star (cellsA wr.heap.size 74 (evC x).toArray) (cellsA b 74 cur.toArray)) W hx S'
        have HX := hide hx
        clear hx
        have hst := filt_step (p := p) HX.out
        have HST := hide hst
        obtain ⟨pb, hpb⟩ : ∃ b, p x = b := ⟨_, rfl⟩
        rw [hpb] at hcl HST
        clear hst hpb
        have HCL := hide hcl
        clear hcl
        obtain ⟨f0, f1, f2, f3, f4⟩ := x
        simp only at d0 d1 d2 d3 d4 HCL
        have S4 := (S3.box #[.int .i64 f0, .int .i64 f1, .string (Go.Proofs.YtbfogieeiobpdaaGreatDoor.S f2), .int .i64 f3, .int .i64 f4] 74 rfl).join
        have hm0 : (0 : Int) ≤ m := by omega
        have hm1 : (m : Int) < xs.length := by omega
        have ha0 : (0 : Int) ≤ a := by omega
        have ha1 : (a : Int) < xs.length := by omega
        have hcall := HCL.out _ S4
        have hlp : b < wr.heap.size := heap_lt S3.cells_get
        cases pb
        · go_wp2_with (first
            | (go_at_fn gF; refine hcall.mono ?_; rintro e w5 ⟨rfl, S5⟩; have S6 := S5.split; have y0 := S6.p1; have e0 : w5.cell? ⟨wr.heap.size, 0, none⟩ = some (.int .i64 f0) := S6.cell 0 _ rfl; have e1 : w5.cell? ⟨wr.heap.size, 1, none⟩ = some (.int .i64 f1) := S6.cell 1 _ rfl; have e2 : w5.cell? ⟨wr.heap.size, 2, none⟩ = some (.string (Go.Proofs.YtbfogieeiobpdaaGreatDoor.S f2)) := S6.cell 2 _ rfl; have e3 : w5.cell? ⟨wr.heap.size, 3, none⟩ = some (.int .i64 f3) := S6.cell 3 _ rfl; have e4 : w5.cell? ⟨wr.heap.size, 4, none⟩ = some (.int .i64 f4) := S6.cell 4 _ rfl)
            | ((show Go.wpList _ _ _ (Oper.mk none (Op.store _ _ _) _ _ _ _ :: _) _ _); refine wpList_slay rfl _ (.tmp 33) (.tmp 32) rfl (b := b) (off := a * 5) y0 [.int .i64 f0, .int .i64 f1, .string (Go.Proofs.YtbfogieeiobpdaaGreatDoor.S f2), .int .i64 f3, .int .i64 f4] (by rw [HAD.out, addr_blk]) rfl rfl (by kernel_rfl) (by simp [r1]; omega) (by simp [Value.oneCell']) ?_; intro w7 S7))
          go_roundw
          case rel =>
            have hst2 := HST.out
            refine ⟨a + 1, m + 1, _, by omega, ?_, by omega, by go_num, by go_num, ?_, ?_, ?_, S7.p1.drop⟩
            · rw [hst2, List.length_append, ← HFA.out]; simp
            · rw [lay_length _ _ _ (by simp [r1]; omega)]; exact r1
            · rw [hst2, List.flatMap_append, ← HR2.out, Nat.succ_mul]
              exact (lay_next (l := cur) (o := a * 5) (cs := [.int .i64 f0, .int .i64 f1, .string (Go.Proofs.YtbfogieeiobpdaaGreatDoor.S f2), .int .i64 f3, .int .i64 f4]) (by simp [r1]; omega)).trans rfl
            · rw [lay_behind (by simp; omega) (by omega), Nat.succ_mul, ← List.drop_drop, HR3.out, List.drop_drop]
          case measure => simp [RowKit.intOf]; omega
        · go_wp2_with (go_at_fn gF; refine hcall.mono ?_; rintro e w5 ⟨rfl, S5⟩; have S6 := S5.split)
          go_roundw
          case rel =>
            have hst2 := HST.out
            simp only [if_true, List.append_nil] at hst2
            refine ⟨a, m + 1, cur, by omega, ?_, by omega, rfl, by go_num, r1, ?_, ?_, S6.drop⟩
            · rw [hst2]; exact HFA.out
            · rw [hst2]; exact HR2.out
            · rw [Nat.succ_mul, ← List.drop_drop, HR3.out, List.drop_drop]
          case measure => simp [RowKit.intOf]; omega
      · obtain rfl : m = xs.length := by omega
        have ht := HR2.out
        rw [List.take_length] at ht
        have HT := hide ht
        have hfa := HFA.out
        rw [List.take_length] at hfa
        have HFB := hide hfa
        clear ht hfa
        have hN := HN.out
        rw [← HFB.out] at hN
        have hb1 : (a : Int) ≤ (c : Int) := by omega
        have hb2 : ¬ (c = a) := by omega
        have hb3 : ¬ (c - a = 0) := by omega
        have hb4 : (0 : Int) ≤ (a : Int) := by omega
        have hb5 : (a : Int) ≤ (xs.length : Int) := by omega
        have hb6 : (xs.length : Int) ≤ (c : Int) := by omega
        go_wp2_with ((show Go.wpList _ _ _ (Oper.mk none (Op.call _) _ _ _ _ :: _) _ _); refine wpList_sclear slV (by simp [Value.cells, Value.oneCell']) rfl _ rfl S3 (off := a * 5) (by rw [HAD.out, addr_blk]) rfl (by omega) (by rw [r1, ← Nat.add_mul]; exact Nat.mul_le_mul_right _ (by omega)) ?_; intro w5 zs hzs S5)
        go_ret
        refine ⟨_, rfl, ?_⟩
        rw [← HFB.out, HAD.out]
        refine S5.rowShut (by omega) q2 ?_ ?_
        · rw [lay_length _ _ _ (by rw [hzs, r1, ← Nat.add_mul]; exact Nat.mul_le_mul_right _ (by omega))]; exact r1
        · rw [lay_ahead (Nat.le_refl _) (by rw [r1]; exact Nat.mul_le_mul_right _ (by omega))]
          exact HT.out
  · have HA := hide (filt_none ha)
    clear ha
    go_wp2_with fail
    go_ret
    refine ⟨_, rfl, ?_⟩
    rw [HA.out]
    exact S1
end

end Go.Proofs.YtbfogieeiobpdaaGreatDoor
