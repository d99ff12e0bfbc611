/- Contracts of the package watch: numbers sorted; Lay. No condition. -/
import Derived.Test.YtbfogieeiobpdaaGreatDoorBookS
import Derived.Test.YtbfogieeiobpdaaGreatDoorTook
set_option linter.unusedVariables false
set_option linter.unusedSimpArgs false
namespace Go.Proofs.YtbfogieeiobpdaaGreatDoor
open Go.RowKit

def sortZ (l : List Int) : List Int := l.mergeSort fun x y => decide (x ≤ y)
theorem sortZ_perm (l : List Int) : (sortZ l).Perm l := List.mergeSort_perm _ _
theorem sortZ_length (l : List Int) : (sortZ l).length = l.length := (sortZ_perm l).length_eq
theorem sortZ_eq {l m : List Int} (h : l.Perm m) : sortZ l = sortZ m := by
  have htr : ∀ a b c : Int, decide (a ≤ b) = true → decide (b ≤ c) = true → decide (a ≤ c) = true := by
    intro a b c h1 h2
    simp only [decide_eq_true_eq] at *
    omega
  have hto : ∀ a b : Int, (decide (a ≤ b) || decide (b ≤ a)) = true := by
    intro a b
    simp only [Bool.or_eq_true, decide_eq_true_eq]
    omega
  refine List.Perm.eq_of_pairwise (le := fun a b => decide (a ≤ b) = true) ?_ (List.pairwise_mergeSort htr hto l) (List.pairwise_mergeSort htr hto m) ((sortZ_perm l).trans (h.trans (sortZ_perm m).symm))
  intro a b _ _ h1 h2
  simp only [decide_eq_true_eq] at h1 h2
  omega
theorem sortZ_asc {l : List Int} (h : l.Pairwise (· < ·)) : sortZ l = l := by
  have htr : ∀ a b c : Int, decide (a ≤ b) = true → decide (b ≤ c) = true → decide (a ≤ c) = true := by
    intro a b c h1 h2
    simp only [decide_eq_true_eq] at *
    omega
  have hto : ∀ a b : Int, (decide (a ≤ b) || decide (b ≤ a)) = true := by
    intro a b
    simp only [Bool.or_eq_true, decide_eq_true_eq]
    omega
  refine List.Perm.eq_of_pairwise (le := fun a b => decide (a ≤ b) = true) ?_ (List.pairwise_mergeSort htr hto l) (h.imp fun {a b} h => by simp only [decide_eq_true_eq]; omega) (sortZ_perm l)
  intro a b _ _ h1 h2
  simp only [decide_eq_true_eq] at h1 h2
  omega
theorem sort_ints {g w : World} {L : List Asn} {v : Value} {xs : List Int} (S0 : Sat g w (rowA 3 1 v xs.length (Is xs) :: L)) (hl : xs.length ≤ 1000000) :
    Calls Tryz.prog 55 #[v] w fun e w' => e = .returned (.tuple #[]) ∧ Sat g w' (rowA 3 1 v xs.length (Is (sortZ xs)) :: L) := by
  obtain ⟨hlen, hr⟩ := S0.row
  rcases hr with ⟨rfl, h0⟩ | ⟨b, cap, cur, rfl, _, hb, r1, r2, r3, r4⟩
  · obtain rfl : xs = [] := List.length_eq_zero_iff.1 h0
    refine (Tryz.slices_Sort_int_none none 0 w).mono ?_
    rintro e w' ⟨rfl, rfl⟩
    exact ⟨rfl, by simpa [sortZ] using S0⟩
  · have hcell : ∀ j, (h : j < xs.length) → cur[j]? = some (Value.int .i64 xs[j]) := by
      intro j hj
      have h1 := congrArg (·[j]?) r4
      simp only [Nat.mul_one, List.getElem?_take, hj, if_true, Is, List.getElem?_map, List.getElem?_eq_getElem hj, Option.map_some] at h1
      simpa using h1
    have hH : Go.Sort.Holds (Value.int .i64) w b 0 xs.toArray := by
      intro j hj
      have hj2 : j < xs.length := by simpa using hj
      refine ⟨?_, ?_⟩
      · rw [Nat.zero_add, cell_of_row w b j cur _ (0, 0) hb, hcell j hj2, getElem!_pos _ j hj]
        rfl
      · simp [World.frozen?, hb]
    refine (Tryz.slices_Sort_int b 0 cap xs w hH (heap_lt hb) (by omega)).mono ?_
    rintro e w' ⟨rfl, n, os, rfl⟩
    refine ⟨rfl, ?_⟩
    have hk : Keeps (fun i => i = b) w (Go.Sort.grow (Go.Sort.putRow (Value.int .i64) (Go.Sort.ahead w n) b 0 (sortZ xs).toArray) os) := by
      refine ⟨rfl, rfl, rfl, by simp [Go.Sort.grow, Go.Sort.putRow, Go.Sort.mapBlock, Go.Sort.ahead], fun k hk hn => ?_⟩
      have hn' : ¬ b = k := fun e => hn e.symm
      simp [Go.Sort.grow, Go.Sort.putRow, Go.Sort.mapBlock, Go.Sort.ahead, Array.getElem?_append, Array.getElem?_modify, Array.getElem_modify, hk, hn']
    have hsz : (sortZ xs).length = xs.length := sortZ_length xs
    have hb' : (Go.Sort.grow (Go.Sort.putRow (Value.int .i64) (Go.Sort.ahead w n) b 0 (sortZ xs).toArray) os).heap[b]? = some (.cells (Go.Sort.putCells (Value.int .i64) 0 (sortZ xs).toArray cur) 3 (0, 0)) := by
      have hlt := heap_lt hb
      have hb2 : w.heap[b] = .cells cur 3 (0, 0) := by
        rw [Array.getElem?_eq_getElem hlt] at hb
        exact Option.some.inj hb
      simp [Go.Sort.grow, Go.Sort.putRow, Go.Sort.mapBlock, Go.Sort.ahead, Array.getElem?_append, Array.getElem?_modify, Array.getElem_modify, hlt, hb2, Go.Sort.onCells]
    refine S0.grew (v' := .slice (some ⟨b, 0, none⟩) xs.length cap) ⟨by simp [Is, hsz], .inr ⟨b, cap, _, rfl, Nat.zero_le _, hb', r1, r2, by simpa [Go.Sort.putCells] using r3, ?_⟩⟩ ⟨hk.mono fun i _ e => by rw [e]; rfl, fun g hg => .inl hg⟩
    apply List.ext_getElem?
    intro k
    simp only [Nat.mul_one, List.getElem?_take, Is, List.getElem?_map, Go.Sort.putCells, Array.getElem?_toList, Array.getElem?_mapIdx]
    by_cases hk2 : k < xs.length
    · rw [if_pos hk2, hcell k hk2]
      have h4 : k < (sortZ xs).length := by omega
      have h5 : ((sortZ xs).toArray)[k]! = (sortZ xs)[k] := getElem!_pos (sortZ xs).toArray k (by simpa using h4)
      rw [List.getElem?_eq_getElem h4]
      simp [h4, h5]
    · rw [if_neg hk2, List.getElem?_eq_none (by omega)]
      rfl

theorem slI : Sl Tryz.prog 33 3 1 8 (.int .i64 0) := .mk' Tryz.underlying33 (by kernel_rfl) rfl (by decide)

/-! ### the bytes of a book -/
def watB (x : WatT) : List UInt8 := nums [x.session] ++ txts [x.path] ++ flags [x.kids, x.once]
def evB (x : EvT) : List UInt8 := nums [x.session, x.no] ++ txts [x.path] ++ nums [x.what, x.when_]
def nosB (p : Int × Int) : List UInt8 := nums [p.1, p.2]
def normZ (nos : List (Int × Int)) : List (Int × Int) := (sortZ (keys nos)).map fun k => (k, (mget nos k).getD 0)
def layW (B : BookT) : List UInt8 := nums [(B.ws.length : Int)] ++ B.ws.flatMap watB ++ nums [(B.es.length : Int)] ++ B.es.flatMap evB ++ nums [(B.nos.length : Int)] ++ (normZ B.nos).flatMap nosB
theorem normZ_eq {a b : List (Int × Int)} (ha : (keys a).Nodup) (hb : (keys b).Nodup) (h : ∀ k, mget a k = mget b k) : normZ a = normZ b ∧ a.length = b.length := by
  have hp : (keys a).Perm (keys b) := by
    rw [List.perm_ext_iff_of_nodup ha hb]
    intro k
    rw [mem_keys_mget, mem_keys_mget, h k]
  refine ⟨?_, by have := hp.length_eq; simpa using this⟩
  unfold normZ
  rw [sortZ_eq hp]
  apply List.map_congr_left
  intro k _
  rw [h k]
theorem normZ_length (a : List (Int × Int)) : (normZ a).length = a.length := by unfold normZ; rw [List.length_map, sortZ_length]; simp
theorem watB_le (x : WatT) : (watB x).length ≤ 65600 := by
  have h1 := txts_le [x.path]
  have h2 := nums_length [x.session]
  simp only [List.length_cons, List.length_nil] at h1 h2
  unfold watB
  rw [List.length_append, List.length_append]
  have h3 : (flags [x.kids, x.once]).length = 2 := by simp [flags]
  omega
theorem evB_le (x : EvT) : (evB x).length ≤ 65600 := by
  have h1 := txts_le [x.path]
  have h2 := nums_length [x.session, x.no]
  have h3 := nums_length [x.what, x.when_]
  simp only [List.length_cons, List.length_nil] at h1 h2 h3
  unfold evB
  rw [List.length_append, List.length_append]
  omega
theorem flat_le {α : Type} (f : α → List UInt8) (n : Nat) (h : ∀ x, (f x).length ≤ n) (l : List α) : (l.flatMap f).length ≤ n * l.length := by
  induction l with
  | nil => simp
  | cons a r ih =>
    have := h a
    rw [List.flatMap_cons, List.length_append, List.length_cons, Nat.mul_succ]
    omega
theorem take_flatX {α : Type} (f : α → List UInt8) (l : List α) (k : Nat) (x : α) (h : l[k]? = some x) : (l.take (k + 1)).flatMap f = (l.take k).flatMap f ++ f x := by
  obtain ⟨hk, e⟩ := List.getElem?_eq_some_iff.1 h
  rw [List.take_succ_eq_append_getElem hk, List.flatMap_append, e]
  simp

set_option maxRecDepth 100000 in
set_option maxHeartbeats 16000000 in
theorem lay_book {g w : World} {L : List Asn} {b : Nat} {B : BookT} {v : Value} {l : List UInt8} (S0 : Sat g w (bytesA v l :: bookA b B :: L)) (hl : B.es.length ≤ 1100) (hl2 : B.ws.length ≤ 50) (hl3 : B.nos.length ≤ 1100) (hb : l.length ≤ 1000000) :
    Calls Tryz.prog 13 #[ptr b, v] w fun e w' => ∃ v', e = .returned v' ∧ Sat g w' (bytesA v' (l ++ layW B) :: bookA b B :: L) := by
  have hcl := clone_book S0.p1 (by omega) (by omega)
  have hnd0 : (keys B.nos).Nodup := by
    obtain ⟨wv, S1⟩ := S0.p1.bookOpen
    obtain ⟨ev, m, S2⟩ := S1.notesOpen
    exact S2.p2.mapOf.nodup
  have HLW : Hid (layW B = nums [(B.ws.length : Int)] ++ B.ws.flatMap watB ++ nums [(B.es.length : Int)] ++ B.es.flatMap evB ++ nums [(B.nos.length : Int)] ++ (normZ B.nos).flatMap nosB) := rfl
  have HND0 := hide hnd0
  clear hnd0
  obtain ⟨ws, es, nos0⟩ := B
  simp only at hl hl2 hl3 hcl HLW HND0
  generalize layW ⟨ws, es, nos0⟩ = LW at *
  go_enter Tryz.func13, Tryz.ntmps13
  go_wp2_with fail
  refine hcl.mono ?_
  rintro e w1 ⟨t, nos, rfl, hnos, S1⟩
  obtain ⟨wv, S2⟩ := S1.bookOpen
  obtain ⟨ev, m, S3⟩ := S2.notesOpen
  obtain ⟨A, c, rfl, -⟩ := S3.p3.row.form
  obtain ⟨A2, c2, rfl, -⟩ := S3.p1.row.form
  have hnd := S3.p2.mapOf.nodup
  obtain ⟨hnz, hnl⟩ := normZ_eq hnd HND0.out hnos
  have HNZ := hide hnz
  rw [← hnl] at hl3 HLW
  rw [← hnz] at HLW
  simp only at S3
  have S4 : Sat g w1 (bytesA v l :: cellsA t 99 #[.slice A ws.length c, .slice A2 es.length c2, .map (some m)] :: rowA 74 5 (.slice A2 es.length c2) es.length (es.flatMap evC) :: mapA kW kW m nos :: rowA 96 4 (.slice A ws.length c) ws.length (ws.flatMap watC) :: bookA b ⟨ws, es, nos0⟩ :: L) := S3.p5
  clear S0 S1 S2 S3 hcl hnos hnz hnl
  have c0 := S4.p1.cell 0 _ rfl
  have c1 := S4.p1.cell 1 _ rfl
  have c2' := S4.p1.cell 2 _ rfl
  go_wp2_with fail
  refine (s_num [(ws.length : Int)] (S4.box _ _ rfl) rfl (by omega) (by simp)).mono ?_
  rintro e w2 ⟨v2, rfl, S5⟩
  have hn1 : (l ++ nums [(ws.length : Int)]).length ≤ 1000006 := by rw [List.length_append, nums_length]; simp; omega
  generalize hN1 : l ++ nums [(ws.length : Int)] = N1 at *
  have HN1 := hide hN1
  clear S4 c0 c1 c2' hN1
  have c0 := S5.p1.cell 0 _ rfl
  go_wp2_with fail
  clear c0
  go_loopw [1, 29] (fun u i wr => ∃ k : Nat, k ≤ ws.length ∧ i = .int .i64 k ∧ Sat g wr (bytesA u (N1 ++ (ws.take k).flatMap watB) :: cellsA t 99 #[.slice A ws.length c, .slice A2 es.length c2, .map (some m)] :: rowA 74 5 (.slice A2 es.length c2) es.length (es.flatMap evC) :: mapA kW kW m nos :: rowA 96 4 (.slice A ws.length c) ws.length (ws.flatMap watC) :: bookA b ⟨ws, es, nos0⟩ :: L)) (fun _ i _ => ws.length + 1 - (RowKit.intOf i).toNat)
  case atStart => exact ⟨0, by omega, rfl, by simpa using S5⟩
  case round =>
    obtain ⟨k, hk, rfl, S4⟩ := hrel
    clear S5
    have hle := flat_le watB 65600 watB_le (ws.take k)
    have hle2 : (ws.take k).length ≤ k := List.length_take_le _ _
    by_cases hlt : k < ws.length
    · have hk0 : (0 : Int) ≤ (k : Int) := by omega
      have hk1 : (k : Int) < (ws.length : Int) := by omega
      obtain ⟨ad, x, rfl, hx, d0, d1, d2, d3⟩ := wat_at S4.p4.srcR hlt
      have HT := hide (take_flatX watB ws k x hx)
      obtain ⟨s, p, kd, oc⟩ := x
      generalize hLL : (ws.take k).flatMap watB = LL at *
      have HLL := hide hLL
      clear hx hLL
      have hln : (N1 ++ LL).length ≤ 6000000 := by rw [List.length_append]; omega
      have hln2 : (N1 ++ LL ++ nums [s]).length ≤ 6000006 := by rw [List.length_append, nums_length]; simp only [List.length_cons, List.length_nil]; omega
      have hln3 : (N1 ++ LL ++ nums [s] ++ txts [p]).length ≤ 7000000 := by
        have h1 := txts_le [p]
        simp only [List.length_cons, List.length_nil] at h1
        rw [List.length_append]
        omega
      clear hle hle2
      simp only at d0 d1 d2 d3
      go_upto_region 6 with fail
      have S5 := (S4.box #[.int .i64 s, .string (Go.Proofs.YtbfogieeiobpdaaGreatDoor.S p), .bool kd, .bool oc] 96 rfl).p1
      generalize wr.alloc (.cells #[.int .i64 s, .string (Go.Proofs.YtbfogieeiobpdaaGreatDoor.S p), .bool kd, .bool oc] 96) = w5 at *
      generalize wr.heap.size = xb at *
      clear S4 d0 d1 d2 d3
      have HE : Hid (∀ (w' : World) (L' : List Asn), Sat g w' L' → cellsA xb 96 #[.int .i64 s, .string (Go.Proofs.YtbfogieeiobpdaaGreatDoor.S p), .bool kd, .bool oc] ∈ L' → w'.cell? ⟨xb, 0, none⟩ = some (.int .i64 s) ∧ w'.cell? ⟨xb, 1, none⟩ = some (.string (Go.Proofs.YtbfogieeiobpdaaGreatDoor.S p)) ∧ w'.cell? ⟨xb, 2, none⟩ = some (.bool kd) ∧ w'.cell? ⟨xb, 3, none⟩ = some (.bool oc)) := hide fun w' L' S' h => ⟨S'.cell_of h 0 _ rfl, S'.cell_of h 1 _ rfl, S'.cell_of h 2 _ rfl, S'.cell_of h 3 _ rfl⟩
      have HS5 := HE.out _ _ S5 (by simp)
      go_region_held3 (fun w' => w'.cell? ⟨xb, 0, none⟩ = some (.int .i64 s) ∧ w'.cell? ⟨xb, 1, none⟩ = some (.string (Go.Proofs.YtbfogieeiobpdaaGreatDoor.S p)) ∧ w'.cell? ⟨xb, 2, none⟩ = some (.bool kd) ∧ w'.cell? ⟨xb, 3, none⟩ = some (.bool oc)) (first
            | (go_keep; done)
            | exact HE.out _ _ (Sat.keep S8 (by (repeat (first | exact Keeps.refl _ _ | refine Keeps.alloc ?_ _ | refine Keeps.drew ?_ | refine Keeps.drewN ?_ _)))) (by simp)
            | exact HE.out _ _ (Sat.keep S7 (by (repeat (first | exact Keeps.refl _ _ | refine Keeps.alloc ?_ _ | refine Keeps.drew ?_ | refine Keeps.drewN ?_ _)))) (by simp)
            | exact HE.out _ _ (Sat.keep S6 (by (repeat (first | exact Keeps.refl _ _ | refine Keeps.alloc ?_ _ | refine Keeps.drew ?_ | refine Keeps.drewN ?_ _)))) (by simp)
            | exact HE.out _ _ (Sat.keep S5 (by (repeat (first | exact Keeps.refl _ _ | refine Keeps.alloc ?_ _ | refine Keeps.drew ?_ | refine Keeps.drewN ?_ _)))) (by simp)) (first
            | (go_at_call 53; refine (s_flag [kd, oc] (g := g) (l := N1 ++ LL ++ nums [s] ++ txts [p]) (by (repeat (first | refine Sat.drew ?_ | refine Sat.drewN ?_ _)); first | exact S7.p1 | exact S7.box _ _ rfl) rfl (by omega) (by simp)).mono ?_; rintro e w8 ⟨v8, rfl, S8⟩; have HS8 := HE.out _ _ S8 (by simp))
            | (go_at_call 54; refine (s_text [p] (g := g) (l := N1 ++ LL ++ nums [s]) (by (repeat (first | refine Sat.drew ?_ | refine Sat.drewN ?_ _)); first | exact S6.p1 | exact S6.p2 | exact (S6.p1.box _ _ rfl).b2 | exact (S6.box _ _ rfl) | exact ((S6.box _ _ rfl).box _ _ (b := w6.heap.size + 1) (by simp)).b2 | exact (S6.p1.box _ _ (b := w6.heap.size + 1) (by simp)) | exact (S6.box _ _ rfl).p1.box _ _ (b := w6.heap.size + 1) (by simp)) rfl (by omega) (by simp)).mono ?_; rintro e w7 ⟨v7, rfl, S7⟩; have HS7 := HE.out _ _ S7 (by simp))
            | (go_at_call 41; refine (s_num [s] (g := g) (l := N1 ++ LL) (by (repeat (first | refine Sat.drew ?_ | refine Sat.drewN ?_ _)); first | exact (S5.box _ _ rfl) | exact ((S5.box _ _ rfl).box _ _ (b := w5.heap.size + 1) (by simp)).b2 | exact ((S5.box _ _ rfl).p1.box _ _ (b := w5.heap.size + 1) (by simp)) | exact (((S5.box _ _ rfl).box _ _ (b := w5.heap.size + 1) (by simp)).b2.box _ _ (b := w5.heap.size + 2) (by simp)).b2 | exact (((S5.box _ _ rfl).p1.box _ _ (b := w5.heap.size + 1) (by simp)).box _ _ (b := w5.heap.size + 2) (by simp)).b2 | exact (((S5.box _ _ rfl).p1.box _ _ (b := w5.heap.size + 1) (by simp)).p1.box _ _ (b := w5.heap.size + 2) (by simp))) rfl (by omega) (by simp)).mono ?_; rintro e w6 ⟨v6, rfl, S6⟩; have HS6 := HE.out _ _ S6 (by simp)))
      all_goals
        have HS := hide S8.p1.drop
        go_wp2_with fail
        go_roundw
        case rel =>
          refine ⟨k + 1, by omega, by go_num, ?_⟩
          rw [HT.out, ← List.append_assoc]
          have S9 := HS.out
          simp only [watB, List.append_assoc] at S9 ⊢
          exact S9
        case measure => simp [RowKit.intOf]; omega
    · obtain rfl : k = ws.length := by omega
      rw [List.take_length] at S4 hle hle2
      generalize hLL : ws.flatMap watB = LW1 at *
      have HLW1 := hide hLL
      have c0 := S4.p1.cell 1 _ rfl
      have hln : (N1 ++ LW1).length ≤ 6000000 := by rw [List.length_append]; omega
      clear hLL hle hle2
      go_wp2_with fail
      refine (s_num [(es.length : Int)] (S4.box _ _ rfl) rfl (by omega) (by simp)).mono ?_
      rintro e w5 ⟨v5, rfl, S5⟩
      have hn2 : (N1 ++ LW1 ++ nums [(es.length : Int)]).length ≤ 6000006 := by rw [List.length_append, nums_length]; simp only [List.length_cons, List.length_nil]; omega
      generalize hN2 : N1 ++ LW1 ++ nums [(es.length : Int)] = N2 at *
      have HN2 := hide hN2
      clear S4 c0 hN2 hln
      have c0 := S5.p1.cell 1 _ rfl
      go_wp2_with fail
      clear c0
      go_loopw [1, 62] (fun u i wr => ∃ k : Nat, k ≤ es.length ∧ i = .int .i64 k ∧ Sat g wr (bytesA u (N2 ++ (es.take k).flatMap evB) :: cellsA t 99 #[.slice A ws.length c, .slice A2 es.length c2, .map (some m)] :: rowA 74 5 (.slice A2 es.length c2) es.length (es.flatMap evC) :: mapA kW kW m nos :: rowA 96 4 (.slice A ws.length c) ws.length (ws.flatMap watC) :: bookA b ⟨ws, es, nos0⟩ :: L)) (fun _ i _ => es.length + 1 - (RowKit.intOf i).toNat)
      case atStart => exact ⟨0, by omega, rfl, by simpa using S5⟩
      case round =>
        obtain ⟨k, hk, rfl, S4⟩ := hrel
        clear S5
        have hle := flat_le evB 65600 evB_le (es.take k)
        have hle2 : (es.take k).length ≤ k := List.length_take_le _ _
        by_cases hlt : k < es.length
        · have hk0 : (0 : Int) ≤ (k : Int) := by omega
          have hk1 : (k : Int) < (es.length : Int) := by omega
          obtain ⟨ad, x, rfl, hx, d0, d1, d2, d3, d4⟩ := ev_at S4.p2.srcR hlt
          have HT := hide (take_flatX evB es k x hx)
          obtain ⟨s, no, p, wh, wn⟩ := x
          generalize hLL : (es.take k).flatMap evB = LL at *
          have HLL := hide hLL
          clear hx hLL
          have hln : (N2 ++ LL).length ≤ 80000000 := by rw [List.length_append]; omega
          have hln2 : (N2 ++ LL ++ nums [s, no]).length ≤ 80000012 := by rw [List.length_append, nums_length]; simp only [List.length_cons, List.length_nil]; omega
          have hln3 : (N2 ++ LL ++ nums [s, no] ++ txts [p]).length ≤ 90000000 := by
            have h1 := txts_le [p]
            simp only [List.length_cons, List.length_nil] at h1
            rw [List.length_append]
            omega
          clear hle hle2
          simp only at d0 d1 d2 d3 d4
          go_upto_region 12 with fail
          have S5 := (S4.box #[.int .i64 s, .int .i64 no, .string (Go.Proofs.YtbfogieeiobpdaaGreatDoor.S p), .int .i64 wh, .int .i64 wn] 74 rfl).p1
          generalize wr.alloc (.cells #[.int .i64 s, .int .i64 no, .string (Go.Proofs.YtbfogieeiobpdaaGreatDoor.S p), .int .i64 wh, .int .i64 wn] 74) = w5 at *
          generalize wr.heap.size = xb at *
          clear S4 d0 d1 d2 d3 d4
          have HE : Hid (∀ (w' : World) (L' : List Asn), Sat g w' L' → cellsA xb 74 #[.int .i64 s, .int .i64 no, .string (Go.Proofs.YtbfogieeiobpdaaGreatDoor.S p), .int .i64 wh, .int .i64 wn] ∈ L' → w'.cell? ⟨xb, 0, none⟩ = some (.int .i64 s) ∧ w'.cell? ⟨xb, 1, none⟩ = some (.int .i64 no) ∧ w'.cell? ⟨xb, 2, none⟩ = some (.string (Go.Proofs.YtbfogieeiobpdaaGreatDoor.S p)) ∧ w'.cell? ⟨xb, 3, none⟩ = some (.int .i64 wh) ∧ w'.cell? ⟨xb, 4, none⟩ = some (.int .i64 wn)) := hide fun w' L' S' h => ⟨S'.cell_of h 0 _ rfl, S'.cell_of h 1 _ rfl, S'.cell_of h 2 _ rfl, S'.cell_of h 3 _ rfl, S'.cell_of h 4 _ rfl⟩
          have HS5 := HE.out _ _ S5 (by simp)
          go_region_held3 (fun w' => w'.cell? ⟨xb, 0, none⟩ = some (.int .i64 s) ∧ w'.cell? ⟨xb, 1, none⟩ = some (.int .i64 no) ∧ w'.cell? ⟨xb, 2, none⟩ = some (.string (Go.Proofs.YtbfogieeiobpdaaGreatDoor.S p)) ∧ w'.cell? ⟨xb, 3, none⟩ = some (.int .i64 wh) ∧ w'.cell? ⟨xb, 4, none⟩ = some (.int .i64 wn)) (first
            | (go_keep; done)
            | exact HE.out _ _ (Sat.keep S8 (by (repeat (first | exact Keeps.refl _ _ | refine Keeps.alloc ?_ _ | refine Keeps.drew ?_ | refine Keeps.drewN ?_ _)))) (by simp)
            | exact HE.out _ _ (Sat.keep S7 (by (repeat (first | exact Keeps.refl _ _ | refine Keeps.alloc ?_ _ | refine Keeps.drew ?_ | refine Keeps.drewN ?_ _)))) (by simp)
            | exact HE.out _ _ (Sat.keep S6 (by (repeat (first | exact Keeps.refl _ _ | refine Keeps.alloc ?_ _ | refine Keeps.drew ?_ | refine Keeps.drewN ?_ _)))) (by simp)
            | exact HE.out _ _ (Sat.keep S5 (by (repeat (first | exact Keeps.refl _ _ | refine Keeps.alloc ?_ _ | refine Keeps.drew ?_ | refine Keeps.drewN ?_ _)))) (by simp)) (first
            | (go_at_call 41; refine (s_num [wh, wn] (g := g) (l := N2 ++ LL ++ nums [s, no] ++ txts [p]) (by (repeat (first | refine Sat.drew ?_ | refine Sat.drewN ?_ _)); first | exact S7.p1 | exact S7.box _ _ rfl) rfl (by omega) (by simp)).mono ?_; rintro e w8 ⟨v8, rfl, S8⟩; have HS8 := HE.out _ _ S8 (by simp))
            | (go_at_call 54; refine (s_text [p] (g := g) (l := N2 ++ LL ++ nums [s, no]) (by (repeat (first | refine Sat.drew ?_ | refine Sat.drewN ?_ _)); first | exact S6.p1 | exact S6.p2 | exact (S6.p1.box _ _ rfl).b2 | exact (S6.box _ _ rfl) | exact ((S6.box _ _ rfl).box _ _ (b := w6.heap.size + 1) (by simp)).b2 | exact (S6.p1.box _ _ (b := w6.heap.size + 1) (by simp)) | exact (S6.box _ _ rfl).p1.box _ _ (b := w6.heap.size + 1) (by simp)) rfl (by omega) (by simp)).mono ?_; rintro e w7 ⟨v7, rfl, S7⟩; have HS7 := HE.out _ _ S7 (by simp))
            | (go_at_call 41; refine (s_num [s, no] (g := g) (l := N2 ++ LL) (by (repeat (first | refine Sat.drew ?_ | refine Sat.drewN ?_ _)); first | exact (S5.box _ _ rfl) | exact ((S5.box _ _ rfl).box _ _ (b := w5.heap.size + 1) (by simp)).b2 | exact ((S5.box _ _ rfl).p1.box _ _ (b := w5.heap.size + 1) (by simp)) | exact (((S5.box _ _ rfl).box _ _ (b := w5.heap.size + 1) (by simp)).b2.box _ _ (b := w5.heap.size + 2) (by simp)).b2 | exact (((S5.box _ _ rfl).p1.box _ _ (b := w5.heap.size + 1) (by simp)).box _ _ (b := w5.heap.size + 2) (by simp)).b2 | exact (((S5.box _ _ rfl).p1.box _ _ (b := w5.heap.size + 1) (by simp)).p1.box _ _ (b := w5.heap.size + 2) (by simp))) rfl (by omega) (by simp)).mono ?_; rintro e w6 ⟨v6, rfl, S6⟩; have HS6 := HE.out _ _ S6 (by simp)))
          all_goals
            have HS := hide S8.p1.drop
            go_wp2_with fail
            go_roundw
            case rel =>
              refine ⟨k + 1, by omega, by go_num, ?_⟩
              rw [HT.out, ← List.append_assoc]
              have S9 := HS.out
              simp only [evB, List.append_assoc] at S9 ⊢
              exact S9
            case measure => simp [RowKit.intOf]; omega
        · obtain rfl : k = es.length := by omega
          rw [List.take_length] at S4 hle hle2
          generalize hLL : es.flatMap evB = LE at *
          have HLE := hide hLL
          have hln : (N2 ++ LE).length ≤ 80000000 := by rw [List.length_append]; omega
          have S6 := S4.p3
          have b2 := S6.p2.cell 2 _ rfl
          clear hLL hle hle2
          go_wp2_with (refine wpList_srange rfl _ _ rfl Tryz.underlying30 S6 rfl ?_; intro w9 S9)
          generalize wr.heap.size = ri at *
          clear S4 S6 b2
          go_simp
          go_loopw [10] (fun v wr => ∃ (xs : List Int) (lf : List (Int × Int)), (xs ++ keys lf).Perm (keys nos) ∧ Sat g wr (rangeA kW kW m ri nos lf :: rowA 3 1 v xs.length (Is xs) :: bytesA u1 (N2 ++ LE) :: cellsA t 99 #[.slice A ws.length c, .slice A2 es.length c2, .map (some m)] :: rowA 74 5 (.slice A2 es.length c2) es.length (es.flatMap evC) :: rowA 96 4 (.slice A ws.length c) ws.length (ws.flatMap watC) :: bookA b ⟨ws, es, nos0⟩ :: L)) (fun _ wr => wr.rangeLeft m ri)
          case atStart => exact ⟨[], nos, List.Perm.refl _, S9.nilRow _ _ |>.p1⟩
          case round =>
            obtain ⟨xs, lf, hperm, S10⟩ := hrel
            clear S9
            have hsub := S10.rangeSub
            have hnl : (keys lf).Nodup := hnd.sublist (hsub.map _)
            have hlen : xs.length ≤ 1100 := by
              have h1 := hperm.length_eq
              rw [List.length_append] at h1
              have h2 : (keys nos).length = nos.length := by simp
              omega
            have HML := hide S10.rangeLeft
            have HQ := hide hperm
            clear hperm
            go_wp2_with (at_next; refine wpList_snext rfl _ rfl kWT S10 rfl ?_ ?_)
            · intro hl0
              subst hl0
              have S11 := S10.rangeEnd.p1
              have hz : sortZ xs = sortZ (keys nos) := sortZ_eq (by have := HQ.out; rwa [show keys ([] : List (Int × Int)) = [] from rfl, List.append_nil] at this)
              have hxl : xs.length = nos.length := by
                have := HQ.out.length_eq
                simpa using this
              have hsort := sort_ints S11 (by omega)
              rw [hz, hxl] at hsort
              rw [hxl] at S11
              clear S10 hz
              obtain ⟨A7, c7, rfl, -⟩ := S11.row.form
              go_wp2_with fail
              refine hsort.mono ?_
              rintro e w12 ⟨rfl, S12⟩
              clear S11 hsort
              go_wp2_with fail
              refine (s_num [(nos.length : Int)] (S12.p2.box _ _ rfl) rfl (by omega) (by simp)).mono ?_
              rintro e w13 ⟨v13, rfl, S13⟩
              have hn3 : (N2 ++ LE ++ nums [(nos.length : Int)]).length ≤ 80000006 := by rw [List.length_append, nums_length]; simp only [List.length_cons, List.length_nil]; omega
              generalize hN3 : N2 ++ LE ++ nums [(nos.length : Int)] = N3 at *
              have HN3 := hide hN3
              clear S12 hN3 hln hlen HQ
              have hnzl := normZ_length nos
              have HZA : Hid (∀ (k : Nat) (x : Int), (sortZ (keys nos))[k]? = some x → (normZ nos)[k]? = some (x, (mget nos x).getD 0)) := hide fun k x h => by unfold normZ; rw [List.getElem?_map, h]; rfl
              have HLK : Hid (∀ (w' : World) (L' : List Asn) (x : Int), Sat g w' (mapA kW kW m nos :: L') → (Instr.lookup 30 (.map (some m)) (.int .i64 x) false).run Tryz.prog w' = .ok (.int .i64 ((mget nos x).getD 0)) w') := hide fun w' L' x S' => look_no S' x
              generalize sortZ (keys nos) = SK at *
              generalize normZ nos = NZ at *
              go_wp2_with fail
              go_loopw [1, 106] (fun u i wr => ∃ k : Nat, k ≤ nos.length ∧ i = .int .i64 k ∧ Sat g wr (bytesA u (N3 ++ (NZ.take k).flatMap nosB) :: rowA 3 1 (.slice A7 nos.length c7) nos.length (Is SK) :: mapA kW kW m nos :: cellsA t 99 #[.slice A ws.length c, .slice A2 es.length c2, .map (some m)] :: rowA 74 5 (.slice A2 es.length c2) es.length (es.flatMap evC) :: rowA 96 4 (.slice A ws.length c) ws.length (ws.flatMap watC) :: bookA b ⟨ws, es, nos0⟩ :: L)) (fun _ i _ => nos.length + 1 - (RowKit.intOf i).toNat)
              case atStart => exact ⟨0, by omega, rfl, by simpa using S13⟩
              case round =>
                obtain ⟨k, hk, rfl, S14⟩ := hrel
                clear S13
                have hle := flat_le nosB 12 (fun x => by have := nums_length [x.1, x.2]; simp only [nosB]; simp only [List.length_cons, List.length_nil] at this; omega) (NZ.take k)
                have hle2 : (NZ.take k).length ≤ k := List.length_take_le _ _
                by_cases hlt : k < nos.length
                · have hk0 : (0 : Int) ≤ (k : Int) := by omega
                  have hk1 : (k : Int) < (nos.length : Int) := by omega
                  obtain ⟨ad, u, rfl, hu, hc⟩ := S14.p1.srcT.at_ hlt
                  simp only [Is, List.getElem?_map, Option.map_eq_some_iff] at hu
                  obtain ⟨y, hy, rfl⟩ := hu
                  have HT := hide (take_flatX nosB NZ k _ (HZA.out k y hy))
                  have hlk := HLK.out _ _ y S14.p2
                  have t2 := S14.p3.cell 2 _ rfl
                  generalize (mget nos y).getD 0 = z at *
                  generalize hLL : (NZ.take k).flatMap nosB = LL at *
                  have hln : (N3 ++ LL).length ≤ 90000000 := by rw [List.length_append]; omega
                  clear hy hLL hle hle2
                  go_wp2_with fail
                  refine (s_num [y, z] (S14.box _ _ rfl) rfl (by omega) (by simp)).mono ?_
                  rintro e w15 ⟨v15, rfl, S15⟩
                  clear S14 hlk t2 hc
                  go_wp2_with fail
                  go_roundw
                  case rel => exact ⟨k + 1, by omega, by go_num, by rw [HT.out, ← List.append_assoc]; exact S15⟩
                  case measure => simp [RowKit.intOf]; omega
                · obtain rfl : k = nos.length := by omega
                  rw [← hnzl, List.take_length] at S14
                  have HF : Hid (N3 ++ NZ.flatMap nosB = l ++ LW) := by
                    show _ = _
                    rw [HLW.out, ← HN3.out, ← HN2.out, ← HN1.out]
                    simp only [List.append_assoc]
                  rw [HF.out] at S14
                  have HS := hide (S14.p1.drop.p1.drop.p1.drop.p1.drop.p1.drop)
                  clear S14
                  go_wp2_with fail
                  go_ret
                  exact ⟨_, rfl, HS.out⟩
            · intro y nv w5 hm1 hm2 S11 hlt hen
              have hpl := (mdel_perm hnl hm1).map (·.1)
              have HKP : Hid ((keys lf).Perm (y :: keys (mdel lf y))) := hide hpl
              have HLT := hide hlt
              clear S10 hpl hlt hm1 hm2 hsub hnl
              obtain ⟨A7, c7, rfl, -⟩ := S11.p1.row.form
              go_wp2_with (at_builtin; refine wpList_sapp slI rfl (.tmp 93) (.tmp 95) rfl (g := g) (S := (S11.box #[.int .i64 y] 3 rfl).p2) rfl (Src.block (heap_alloc_new _ _) 1 1 rfl) rfl (by simp [Value.oneCell']) (by unfold maxLen; omega) (by omega) ?_; intro A8 c8 w8 S12)
              have S13 := (S12.p1.drop).p1
              have HS13 : Hid (Sat g w8 (rangeA kW kW m ri nos (mdel lf y) :: rowA 3 1 (.slice A8 (xs.length + 1) c8) (xs ++ [y]).length (Is (xs ++ [y])) :: bytesA u1 (N2 ++ LE) :: cellsA t 99 #[.slice A ws.length c, .slice A2 es.length c2, .map (some m)] :: rowA 74 5 (.slice A2 es.length c2) es.length (es.flatMap evC) :: rowA 96 4 (.slice A ws.length c) ws.length (ws.flatMap watC) :: bookA b ⟨ws, es, nos0⟩ :: L)) := hide (by
                have e1 : (xs ++ [y]).length = xs.length + 1 := by simp
                have e2 : Is (xs ++ [y]) = Is xs ++ [.int .i64 y] := by simp [Is]
                rw [e1, e2]
                exact S13)
              clear S11 S12 S13
              go_roundw
              case rel =>
                refine ⟨xs ++ [y], mdel lf y, ?_, HS13.out⟩
                rw [List.append_assoc]
                exact (HKP.out.symm.append_left xs).trans HQ.out
              case measure => rw [HS13.out.rangeLeft, HML.out]; exact HLT.out
end Go.Proofs.YtbfogieeiobpdaaGreatDoor
