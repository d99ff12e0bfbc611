/- Contracts of the package watch: slices.Clone of events. No condition. Contracts of the package watch: Clone of a book. No condition. Contracts of the package watch: numbers sorted; Lay. No condition. A book read from bytes: plain. No condition. A map's entry taken and stored ('m[k], x = v, y'): the same as a store. No condition. Contracts of the package watch: Read. No condition. -/
import Derived.Test.YthgiamofndhehaaGreatDoorWatM
import Derived.Test.YthgiamofndhehaaGreatDoorTreeM
import Derived.Deep.RegionHeld3
import Derived.Test.YthgiamofndhehaaGreatDoorTook
import Derived.Test.YthgiamofndhehaaGreatDoorLow
namespace Go.Proofs.YthgiamofndhehaaGreatDoor
section
set_option linter.unusedVariables false
set_option linter.unusedSimpArgs false
open Go.RowKit

set_option maxRecDepth 100000 in
set_option maxHeartbeats 4000000 in
theorem clone_ev {g w : World} {L : List Asn} {v : Value} {es : List EvT} (S : Sat g w (rowA 116 5 v es.length (es.flatMap evC) :: L)) (hl : es.length ≤ 1000000) :
    Calls Tryz.prog 105 #[v] w fun e w' => ∃ v', e = .returned v' ∧ Sat g w' (rowA 116 5 v' es.length (es.flatMap evC) :: rowA 116 5 v es.length (es.flatMap evC) :: L) := by
  obtain ⟨A, c, rfl, hnc, hcm, hsrc, -⟩ := S.row.form
  have hone := flatK_one evC_one es
  cases A with
  | none =>
    have h0 : es.length = 0 := by
      rcases S.row.2 with h | h
      · omega
      · obtain ⟨_, _, _, h, _⟩ := h
        cases h
    have hc : c = 0 := by
      rcases S.row.2 with h | h
      · injection h.1
      · obtain ⟨_, _, _, h, _⟩ := h
        cases h
    have h1 : es = [] := by simpa using h0
    subst h1 hc
    simp only [List.length_nil]
    have hnil : ∀ w, (Go.binOp .eql 53 (.slice none 0 0) (.slice none 0 0)).run Tryz.prog w = .ok (.bool true) w := fun w => by kernel_rfl
    go_enter Tryz.func105, Tryz.ntmps105
    go_wp2_with fail
    go_ret
    exact ⟨_, rfl, S.nilRow _ _⟩
  | some ad =>
    have hnil : ∀ w, (Go.binOp .eql 53 (.slice (some ad) es.length c) (.slice none 0 0)).run Tryz.prog w = .ok (.bool false) w := fun w => by kernel_rfl
    have HX := hide hone
    clear hone
    go_enter Tryz.func105, Tryz.ntmps105
    go_wp2_with (at_builtin; refine wpList_sapp slV rfl (.tmp 5) (.tmp 6) rfl (g := g) (S := (S.box #[] 116 rfl).rowOf 5 0 rfl (Nat.zero_le _)) rfl (hsrc.keep ((Keeps.refl (fun _ => False) _).alloc _) (fun _ _ h => h)) rfl HX.out (by unfold maxLen; omega) (by omega) ?_; intro A5 c5 w5 S5)
    go_ret
    refine ⟨_, rfl, ?_⟩
    simpa using S5
end

section
set_option linter.unusedVariables false
set_option linter.unusedSimpArgs false
open Go.RowKit

theorem p7 {A B C D E F G H : Asn} {L : List Asn} {h : Hp} (X : stars (A :: B :: C :: D :: E :: F :: G :: H :: L) h) : stars (H :: A :: B :: C :: D :: E :: F :: G :: L) h := star_perm (star_mono (fun _ h => h) (fun _ h => p6 h) X)
theorem Sat.p7 {g w : World} {A B C D E F G H : Asn} {L : List Asn} (S : Sat g w (A :: B :: C :: D :: E :: F :: G :: H :: L)) : Sat g w (H :: A :: B :: C :: D :: E :: F :: G :: L) := S.map fun _ => Go.Proofs.YthgiamofndhehaaGreatDoor.p7

set_option maxRecDepth 100000 in
set_option maxHeartbeats 4000000 in
theorem clone_book {g w : World} {L : List Asn} {b : Nat} {B : BookT} (S : Sat g w (bookA b B :: L)) (hl : B.es.length ≤ 1000000) (hl2 : B.ws.length ≤ 1000) :
    Calls Tryz.prog 69 #[ptr b] w fun e w' => ∃ t nos, e = .returned (ptr t) ∧ (∀ k, mget nos k = mget B.nos k) ∧ Sat g w' (bookA t ⟨B.ws, B.es, nos⟩ :: bookA b B :: L) := by
  go_enter Tryz.func69, Tryz.ntmps69
  go_wp2_with fail
  refine (new_book S).mono ?_
  rintro e w1 ⟨t, rfl, S1⟩
  obtain ⟨wv0, S2⟩ := S1.bookOpen
  obtain ⟨ev0, m0, S3⟩ := S2.notesOpen
  obtain ⟨wv, S4⟩ := (S3.p1.drop.p2.drop).p2.bookOpen
  obtain ⟨ev, m, S5⟩ := S4.notesOpen
  obtain ⟨A, c, rfl, -⟩ := S5.p3.row.form
  obtain ⟨A2, c2, rfl, -⟩ := S5.p1.row.form
  obtain ⟨ws, es, nos⟩ := B
  simp only at hl hl2 S5
  clear S S1 S2 S3 S4
  have c0 := S5.cell 0 _ rfl
  have c1 := S5.cell 1 _ rfl
  go_upto_region 3 with fail
  have q0 := S5.p4.cell 0 _ rfl
  have q1 := S5.p4.cell 1 _ rfl
  go_region_held3 (fun w' => w'.cell? ⟨b, 0, none⟩ = some (.slice A ws.length c) ∧ w'.cell? ⟨b, 1, none⟩ = some (.slice A2 es.length c2)) (first
    | (go_keep; done)
    | exact ⟨((S7.p6.setc 0 _).p5).cell 0 _ rfl, ((S7.p6.setc 0 _).p5).cell 1 _ rfl⟩
    | exact ⟨(((S7.p6.setc 0 _).setc 1 _).p5).cell 0 _ rfl, (((S7.p6.setc 0 _).setc 1 _).p5).cell 1 _ rfl⟩) (first
    | (go_at_call 104; refine (clone_wat S5.drew.p3 (by omega)).mono ?_; rintro e w6 ⟨v6, rfl, S6⟩; have d0 := S6.p2.cell 0 _ rfl; have d1 := S6.p2.cell 1 _ rfl)
    | (go_at_call 105; refine (clone_ev S6.p3 (by omega)).mono ?_; rintro e w7 ⟨v7, rfl, S7⟩; obtain ⟨A6, c6, rfl, -⟩ := S7.p2.row.form; obtain ⟨A7, c7, rfl, -⟩ := S7.row.form; have d0 := S7.p4.cell 0 _ rfl; have d1 := S7.p4.cell 1 _ rfl; have t0 := S7.p6.cell 0 _ rfl; have t1 := S7.p6.cell 1 _ rfl; have g0 := S7.p6.cells_fz 0; have g1 := S7.p6.cells_fz 1))
  have S8 := ((((S7.p6.setc 0 (.slice A6 ws.length c6)).setc 1 (.slice A7 es.length c7)).p6).p7).p1
  have S8' : Sat g ((w7.setCell ⟨t, 0, none⟩ (.slice A6 ws.length c6)).setCell ⟨t, 1, none⟩ (.slice A7 es.length c7)) (mapA kW kW m nos :: mapA kW kW m0 [] :: cellsA t 154 #[.slice A6 ws.length c6, .slice A7 es.length c7, .map (some m0)] :: rowA 116 5 (.slice A7 es.length c7) es.length (es.flatMap evC) :: rowA 116 5 (.slice A2 es.length c2) es.length (es.flatMap evC) :: rowA 161 4 (.slice A6 ws.length c6) ws.length (ws.flatMap watC) :: rowA 161 4 (.slice A ws.length c) ws.length (ws.flatMap watC) :: cellsA b 154 #[.slice A ws.length c, .slice A2 es.length c2, .map (some m)] :: L) := S8
  generalize (w7.setCell ⟨t, 0, none⟩ (.slice A6 ws.length c6)).setCell ⟨t, 1, none⟩ (.slice A7 es.length c7) = w8 at *
  clear S5 S6 S7 S8 c0 c1 q0 q1
  have hnd := S8'.mapOf.nodup
  have b2 := S8'.p7.cell 2 _ rfl
  go_wp2_with (refine wpList_srange rfl _ _ rfl Tryz.underlying151 S8' rfl ?_; intro w9 S9)
  generalize w8.heap.size = ri at *
  clear S8' b2
  go_simp
  go_loopw [5] (fun _ wr => ∃ (lf nos' : List (Int × Int)), (∀ k, mget nos' k = if k ∈ keys lf then none else mget nos k) ∧ Sat g wr (rangeA kW kW m ri nos lf :: mapA kW kW m0 nos' :: cellsA t 154 #[.slice A6 ws.length c6, .slice A7 es.length c7, .map (some m0)] :: rowA 116 5 (.slice A7 es.length c7) es.length (es.flatMap evC) :: rowA 116 5 (.slice A2 es.length c2) es.length (es.flatMap evC) :: rowA 161 4 (.slice A6 ws.length c6) ws.length (ws.flatMap watC) :: rowA 161 4 (.slice A ws.length c) ws.length (ws.flatMap watC) :: cellsA b 154 #[.slice A ws.length c, .slice A2 es.length c2, .map (some m)] :: L)) (fun _ wr => wr.rangeLeft m ri)
  case atStart =>
    refine ⟨nos, [], fun k => ?_, S9⟩
    by_cases hk : k ∈ keys nos
    · rw [if_pos hk]; rfl
    · rw [if_neg hk, mget_none.2 hk]; rfl
  case round =>
    obtain ⟨lf, nos', hrl, S10⟩ := hrel
    clear S9
    have hsub := S10.rangeSub
    have hnl : (keys lf).Nodup := hnd.sublist (hsub.map _)
    have HML := hide S10.rangeLeft
    have HRL := hide hrl
    clear hrl
    go_wp2_with (at_next; refine wpList_snext rfl _ rfl kWT S10 rfl ?_ ?_)
    · intro hl0
      subst hl0
      have R0 := S10.rangeEnd
      have R1 := (((((R0.p7.p5.p1).notesShut).p5.p1).bookShut (B := ⟨ws, es, nos⟩)).p2.p3.p1.p3.b2)
      have R2 := ((R1.notesShut).p2.p1).bookShut (B := ⟨ws, es, nos'⟩)
      have HS := hide R2
      have HE : Hid (∀ k, mget nos' k = mget nos k) := hide fun k => by have := HRL.out k; simpa using this
      clear S10 R0 R1 R2
      go_wp2_with fail
      go_ret
      first | exact ⟨t, nos', rfl, HE.out, HS.out⟩ | exact ⟨t, rfl, nos', HE.out, HS.out⟩
    · intro k nv w5 hm1 hm2 S11 hlt hen
      obtain ⟨w6, hup, hmo, hku⟩ := S11.p1.mapOf.update kWT Tryz.underlying151 k nv
      have hup' : (Instr.mapUpdate 151 (.map (some m0)) (.int .i64 k) (.int .i64 nv)).run Tryz.prog w5 = .ok () w6 := hup
      have HS12 := hide ((S11.p1.mapPut hku hmo).p1)
      have t2 := S11.p2.cell 2 _ rfl
      have HN : Hid (∀ j, mget (mput nos' k nv) j = if j ∈ keys (mdel lf k) then none else mget nos j) := hide fun j => by
        rw [mget_mput, HRL.out j]
        by_cases hj : j = k
        · subst hj
          rw [if_pos rfl, if_neg (fun h => (mem_keys_mdel.1 h).2 rfl), mget_some hnd hm2]
        · rw [if_neg hj]
          by_cases hjl : j ∈ keys lf
          · rw [if_pos hjl, if_pos (mem_keys_mdel.2 ⟨hjl, hj⟩)]
          · rw [if_neg hjl, if_neg (fun h => hjl (mem_keys_mdel.1 h).1)]
      have HLT := hide hlt
      clear S10 hup hmo hku hm1 hm2 hlt hsub hnl
      go_wp2_with fail
      go_roundw
      case rel => exact ⟨mdel lf k, mput nos' k nv, HN.out, HS12.out⟩
      case measure => rw [HS12.out.rangeLeft, HML.out]; exact HLT.out
end

section
set_option linter.unusedVariables false
set_option linter.unusedSimpArgs false
open Go.RowKit

def sortZ (l : List Int) : List Int := l.mergeSort fun x y => decide (x ≤ y)
theorem sortZ_perm (l : List Int) : (sortZ l).Perm l := List.mergeSort_perm _ _
theorem sortZ_length (l : List Int) : (sortZ l).length = l.length := (sortZ_perm l).length_eq
theorem sortZ_eq {l m : List Int} (h : l.Perm m) : sortZ l = sortZ m := by
  have htr : ∀ a b c : Int, decide (a ≤ b) = true → decide (b ≤ c) = true → decide (a ≤ c) = true := by
    intro a b c h1 h2
    simp only [decide_eq_true_eq] at *
    omega
  have hto : ∀ a b : Int, (decide (a ≤ b) || decide (b ≤ a)) = true := by
    intro a b
    simp only [Bool.or_eq_true, decide_eq_true_eq]
    omega
  refine List.Perm.eq_of_pairwise (le := fun a b => decide (a ≤ b) = true) ?_ (List.pairwise_mergeSort htr hto l) (List.pairwise_mergeSort htr hto m) ((sortZ_perm l).trans (h.trans (sortZ_perm m).symm))
  intro a b _ _ h1 h2
  simp only [decide_eq_true_eq] at h1 h2
  omega
theorem sortZ_asc {l : List Int} (h : l.Pairwise (· < ·)) : sortZ l = l := by
  have htr : ∀ a b c : Int, decide (a ≤ b) = true → decide (b ≤ c) = true → decide (a ≤ c) = true := by
    intro a b c h1 h2
    simp only [decide_eq_true_eq] at *
    omega
  have hto : ∀ a b : Int, (decide (a ≤ b) || decide (b ≤ a)) = true := by
    intro a b
    simp only [Bool.or_eq_true, decide_eq_true_eq]
    omega
  refine List.Perm.eq_of_pairwise (le := fun a b => decide (a ≤ b) = true) ?_ (List.pairwise_mergeSort htr hto l) (h.imp fun {a b} h => by simp only [decide_eq_true_eq]; omega) (sortZ_perm l)
  intro a b _ _ h1 h2
  simp only [decide_eq_true_eq] at h1 h2
  omega
theorem sort_ints {g w : World} {L : List Asn} {v : Value} {xs : List Int} (S0 : Sat g w (rowA 3 1 v xs.length (Is xs) :: L)) (hl : xs.length ≤ 1000000) :
    Calls Tryz.prog 99 #[v] w fun e w' => e = .returned (.tuple #[]) ∧ Sat g w' (rowA 3 1 v xs.length (Is (sortZ xs)) :: L) := by
  obtain ⟨hlen, hr⟩ := S0.row
  rcases hr with ⟨rfl, h0⟩ | ⟨b, cap, cur, rfl, _, hb, r1, r2, r3, r4⟩
  · obtain rfl : xs = [] := List.length_eq_zero_iff.1 h0
    refine (Tryz.slices_Sort_int_none none 0 w).mono ?_
    rintro e w' ⟨rfl, rfl⟩
    exact ⟨rfl, by simpa [sortZ] using S0⟩
  · have hcell : ∀ j, (h : j < xs.length) → cur[j]? = some (Value.int .i64 xs[j]) := by
      intro j hj
      have h1 := congrArg (·[j]?) r4
      simp only [Nat.mul_one, List.getElem?_take, hj, if_true, Is, List.getElem?_map, List.getElem?_eq_getElem hj, Option.map_some] at h1
      simpa using h1
    have hH : Go.Sort.Holds (Value.int .i64) w b 0 xs.toArray := by
      intro j hj
      have hj2 : j < xs.length := by simpa using hj
      refine ⟨?_, ?_⟩
      · rw [Nat.zero_add, cell_of_row w b j cur _ (0, 0) hb, hcell j hj2, getElem!_pos _ j hj]
        rfl
      · simp [World.frozen?, hb]
    refine (Tryz.slices_Sort_int b 0 cap xs w hH (heap_lt hb) (by omega)).mono ?_
    rintro e w' ⟨rfl, n, os, rfl⟩
    refine ⟨rfl, ?_⟩
    have hk : Keeps (fun i => i = b) w (Go.Sort.grow (Go.Sort.putRow (Value.int .i64) (Go.Sort.ahead w n) b 0 (sortZ xs).toArray) os) := by
      refine ⟨rfl, rfl, rfl, by simp [Go.Sort.grow, Go.Sort.putRow, Go.Sort.mapBlock, Go.Sort.ahead], fun k hk hn => ?_⟩
      have hn' : ¬ b = k := fun e => hn e.symm
      simp [Go.Sort.grow, Go.Sort.putRow, Go.Sort.mapBlock, Go.Sort.ahead, Array.getElem?_append, Array.getElem?_modify, Array.getElem_modify, hk, hn']
    have hsz : (sortZ xs).length = xs.length := sortZ_length xs
    have hb' : (Go.Sort.grow (Go.Sort.putRow (Value.int .i64) (Go.Sort.ahead w n) b 0 (sortZ xs).toArray) os).heap[b]? = some (.cells (Go.Sort.putCells (Value.int .i64) 0 (sortZ xs).toArray cur) 3 (0, 0)) := by
      have hlt := heap_lt hb
      have hb2 : w.heap[b] = .cells cur 3 (0, 0) := by
        rw [Array.getElem?_eq_getElem hlt] at hb
        exact Option.some.inj hb
      simp [Go.Sort.grow, Go.Sort.putRow, Go.Sort.mapBlock, Go.Sort.ahead, Array.getElem?_append, Array.getElem?_modify, Array.getElem_modify, hlt, hb2, Go.Sort.onCells]
    refine S0.grew (v' := .slice (some ⟨b, 0, none⟩) xs.length cap) ⟨by simp [Is, hsz], .inr ⟨b, cap, _, rfl, Nat.zero_le _, hb', r1, r2, by simpa [Go.Sort.putCells] using r3, ?_⟩⟩ ⟨hk.mono fun i _ e => by rw [e]; rfl, fun g hg => .inl hg⟩
    apply List.ext_getElem?
    intro k
    simp only [Nat.mul_one, List.getElem?_take, Is, List.getElem?_map, Go.Sort.putCells, Array.getElem?_toList, Array.getElem?_mapIdx]
    by_cases hk2 : k < xs.length
    · rw [if_pos hk2, hcell k hk2]
      have h4 : k < (sortZ xs).length := by omega
      have h5 : ((sortZ xs).toArray)[k]! = (sortZ xs)[k] := getElem!_pos (sortZ xs).toArray k (by simpa using h4)
      rw [List.getElem?_eq_getElem h4]
      simp [h4, h5]
    · rw [if_neg hk2, List.getElem?_eq_none (by omega)]
      rfl

theorem slI : Sl Tryz.prog 23 3 1 8 (.int .i64 0) := .mk' Tryz.underlying23 (by kernel_rfl) rfl (by decide)

/-! ### the bytes of a book -/
def watB (x : WatT) : List UInt8 := nums [x.session] ++ txts [x.path] ++ flags [x.kids, x.once]
def evB (x : EvT) : List UInt8 := nums [x.session, x.no] ++ txts [x.path] ++ nums [x.what, x.when_]
def nosB (p : Int × Int) : List UInt8 := nums [p.1, p.2]
def normZ (nos : List (Int × Int)) : List (Int × Int) := (sortZ (keys nos)).map fun k => (k, (mget nos k).getD 0)
def layW (B : BookT) : List UInt8 := nums [(B.ws.length : Int)] ++ B.ws.flatMap watB ++ nums [(B.es.length : Int)] ++ B.es.flatMap evB ++ nums [(B.nos.length : Int)] ++ (normZ B.nos).flatMap nosB
theorem normZ_eq {a b : List (Int × Int)} (ha : (keys a).Nodup) (hb : (keys b).Nodup) (h : ∀ k, mget a k = mget b k) : normZ a = normZ b ∧ a.length = b.length := by
  have hp : (keys a).Perm (keys b) := by
    rw [List.perm_ext_iff_of_nodup ha hb]
    intro k
    rw [mem_keys_mget, mem_keys_mget, h k]
  refine ⟨?_, by have := hp.length_eq; simpa using this⟩
  unfold normZ
  rw [sortZ_eq hp]
  apply List.map_congr_left
  intro k _
  rw [h k]
theorem normZ_length (a : List (Int × Int)) : (normZ a).length = a.length := by unfold normZ; rw [List.length_map, sortZ_length]; simp
theorem watB_le (x : WatT) : (watB x).length ≤ 65600 := by
  have h1 := txts_le [x.path]
  have h2 := nums_length [x.session]
  simp only [List.length_cons, List.length_nil] at h1 h2
  unfold watB
  rw [List.length_append, List.length_append]
  have h3 : (flags [x.kids, x.once]).length = 2 := by simp [flags]
  omega
theorem evB_le (x : EvT) : (evB x).length ≤ 65600 := by
  have h1 := txts_le [x.path]
  have h2 := nums_length [x.session, x.no]
  have h3 := nums_length [x.what, x.when_]
  simp only [List.length_cons, List.length_nil] at h1 h2 h3
  unfold evB
  rw [List.length_append, List.length_append]
  omega
theorem flat_le {α : Type} (f : α → List UInt8) (n : Nat) (h : ∀ x, (f x).length ≤ n) (l : List α) : (l.flatMap f).length ≤ n * l.length := by
  induction l with
  | nil => simp
  | cons a r ih =>
    have := h a
    rw [List.flatMap_cons, List.length_append, List.length_cons, Nat.mul_succ]
    omega
theorem take_flatX {α : Type} (f : α → List UInt8) (l : List α) (k : Nat) (x : α) (h : l[k]? = some x) : (l.take (k + 1)).flatMap f = (l.take k).flatMap f ++ f x := by
  obtain ⟨hk, e⟩ := List.getElem?_eq_some_iff.1 h
  rw [List.take_succ_eq_append_getElem hk, List.flatMap_append, e]
  simp

set_option maxRecDepth 100000 in
set_option maxHeartbeats 16000000 in
theorem lay_book {g w : World} {L : List Asn} {b : Nat} {B : BookT} {v : Value} {l : List UInt8} (S0 : Sat g w (bytesA v l :: bookA b B :: L)) (hl : B.es.length ≤ 1100) (hl2 : B.ws.length ≤ 50) (hl3 : B.nos.length ≤ 1100) (hb : l.length ≤ 1000000) :
    Calls Tryz.prog 61 #[ptr b, v] w fun e w' => ∃ v', e = .returned v' ∧ Sat g w' (bytesA v' (l ++ layW B) :: bookA b B :: L) := by
  have hcl := clone_book S0.p1 (by omega) (by omega)
  have hnd0 : (keys B.nos).Nodup := by
    obtain ⟨wv, S1⟩ := S0.p1.bookOpen
    obtain ⟨ev, m, S2⟩ := S1.notesOpen
    exact S2.p2.mapOf.nodup
  have HLW : Hid (layW B = nums [(B.ws.length : Int)] ++ B.ws.flatMap watB ++ nums [(B.es.length : Int)] ++ B.es.flatMap evB ++ nums [(B.nos.length : Int)] ++ (normZ B.nos).flatMap nosB) := rfl
  have HND0 := hide hnd0
  clear hnd0
  obtain ⟨ws, es, nos0⟩ := B
  simp only at hl hl2 hl3 hcl HLW HND0
  generalize layW ⟨ws, es, nos0⟩ = LW at *
  go_enter Tryz.func61, Tryz.ntmps61
  go_wp2_with fail
  refine hcl.mono ?_
  rintro e w1 ⟨t, nos, rfl, hnos, S1⟩
  obtain ⟨wv, S2⟩ := S1.bookOpen
  obtain ⟨ev, m, S3⟩ := S2.notesOpen
  obtain ⟨A, c, rfl, -⟩ := S3.p3.row.form
  obtain ⟨A2, c2, rfl, -⟩ := S3.p1.row.form
  have hnd := S3.p2.mapOf.nodup
  obtain ⟨hnz, hnl⟩ := normZ_eq hnd HND0.out hnos
  have HNZ := hide hnz
  rw [← hnl] at hl3 HLW
  rw [← hnz] at HLW
  simp only at S3
  have S4 : Sat g w1 (bytesA v l :: cellsA t 154 #[.slice A ws.length c, .slice A2 es.length c2, .map (some m)] :: rowA 116 5 (.slice A2 es.length c2) es.length (es.flatMap evC) :: mapA kW kW m nos :: rowA 161 4 (.slice A ws.length c) ws.length (ws.flatMap watC) :: bookA b ⟨ws, es, nos0⟩ :: L) := S3.p5
  clear S0 S1 S2 S3 hcl hnos hnz hnl
  have c0 := S4.p1.cell 0 _ rfl
  have c1 := S4.p1.cell 1 _ rfl
  have c2' := S4.p1.cell 2 _ rfl
  go_wp2_with fail
  refine (s_num [(ws.length : Int)] (S4.box _ _ rfl) rfl (by omega) (by simp)).mono ?_
  rintro e w2 ⟨v2, rfl, S5⟩
  have hn1 : (l ++ nums [(ws.length : Int)]).length ≤ 1000006 := by rw [List.length_append, nums_length]; simp; omega
  generalize hN1 : l ++ nums [(ws.length : Int)] = N1 at *
  have HN1 := hide hN1
  clear S4 c0 c1 c2' hN1
  have c0 := S5.p1.cell 0 _ rfl
  go_wp2_with fail
  clear c0
  go_loopw [1, 29] (fun u i wr => ∃ k : Nat, k ≤ ws.length ∧ i = .int .i64 k ∧ Sat g wr (bytesA u (N1 ++ (ws.take k).flatMap watB) :: cellsA t 154 #[.slice A ws.length c, .slice A2 es.length c2, .map (some m)] :: rowA 116 5 (.slice A2 es.length c2) es.length (es.flatMap evC) :: mapA kW kW m nos :: rowA 161 4 (.slice A ws.length c) ws.length (ws.flatMap watC) :: bookA b ⟨ws, es, nos0⟩ :: L)) (fun _ i _ => ws.length + 1 - (RowKit.intOf i).toNat)
  case atStart => exact ⟨0, by omega, rfl, by simpa using S5⟩
  case round =>
    obtain ⟨k, hk, rfl, S4⟩ := hrel
    clear S5
    have hle := flat_le watB 65600 watB_le (ws.take k)
    have hle2 : (ws.take k).length ≤ k := List.length_take_le _ _
    by_cases hlt : k < ws.length
    · have hk0 : (0 : Int) ≤ (k : Int) := by omega
      have hk1 : (k : Int) < (ws.length : Int) := by omega
      obtain ⟨ad, x, rfl, hx, d0, d1, d2, d3⟩ := wat_at S4.p4.srcR hlt
      have HT := hide (take_flatX watB ws k x hx)
      obtain ⟨s, p, kd, oc⟩ := x
      generalize hLL : (ws.take k).flatMap watB = LL at *
      have HLL := hide hLL
      clear hx hLL
      have hln : (N1 ++ LL).length ≤ 6000000 := by rw [List.length_append]; omega
      have hln2 : (N1 ++ LL ++ nums [s]).length ≤ 6000006 := by rw [List.length_append, nums_length]; simp only [List.length_cons, List.length_nil]; omega
      have hln3 : (N1 ++ LL ++ nums [s] ++ txts [p]).length ≤ 7000000 := by
        have h1 := txts_le [p]
        simp only [List.length_cons, List.length_nil] at h1
        rw [List.length_append]
        omega
      clear hle hle2
      simp only at d0 d1 d2 d3
      go_upto_region 6 with fail
      have S5 := (S4.box #[.int .i64 s, .string (Go.Proofs.YthgiamofndhehaaGreatDoor.S p), .bool kd, .bool oc] 161 rfl).p1
      generalize wr.alloc (.cells #[.int .i64 s, .string (Go.Proofs.YthgiamofndhehaaGreatDoor.S p), .bool kd, .bool oc] 161) = w5 at *
      generalize wr.heap.size = xb at *
      clear S4 d0 d1 d2 d3
      have HE : Hid (∀ (w' : World) (L' : List Asn), Sat g w' L' → cellsA xb 161 #[.int .i64 s, .string (Go.Proofs.YthgiamofndhehaaGreatDoor.S p), .bool kd, .bool oc] ∈ L' → w'.cell? ⟨xb, 0, none⟩ = some (.int .i64 s) ∧ w'.cell? ⟨xb, 1, none⟩ = some (.string (Go.Proofs.YthgiamofndhehaaGreatDoor.S p)) ∧ w'.cell? ⟨xb, 2, none⟩ = some (.bool kd) ∧ w'.cell? ⟨xb, 3, none⟩ = some (.bool oc)) := hide fun w' L' S' h => ⟨S'.cell_of h 0 _ rfl, S'.cell_of h 1 _ rfl, S'.cell_of h 2 _ rfl, S'.cell_of h 3 _ rfl⟩
      have HS5 := HE.out _ _ S5 (by simp)
      go_region_held3 (fun w' => w'.cell? ⟨xb, 0, none⟩ = some (.int .i64 s) ∧ w'.cell? ⟨xb, 1, none⟩ = some (.string (Go.Proofs.YthgiamofndhehaaGreatDoor.S p)) ∧ w'.cell? ⟨xb, 2, none⟩ = some (.bool kd) ∧ w'.cell? ⟨xb, 3, none⟩ = some (.bool oc)) (first
            | (go_keep; done)
            | exact HE.out _ _ (Sat.keep S8 (by (repeat (first | exact Keeps.refl _ _ | refine Keeps.alloc ?_ _ | refine Keeps.drew ?_ | refine Keeps.drewN ?_ _)))) (by simp)
            | exact HE.out _ _ (Sat.keep S7 (by (repeat (first | exact Keeps.refl _ _ | refine Keeps.alloc ?_ _ | refine Keeps.drew ?_ | refine Keeps.drewN ?_ _)))) (by simp)
            | exact HE.out _ _ (Sat.keep S6 (by (repeat (first | exact Keeps.refl _ _ | refine Keeps.alloc ?_ _ | refine Keeps.drew ?_ | refine Keeps.drewN ?_ _)))) (by simp)
            | exact HE.out _ _ (Sat.keep S5 (by (repeat (first | exact Keeps.refl _ _ | refine Keeps.alloc ?_ _ | refine Keeps.drew ?_ | refine Keeps.drewN ?_ _)))) (by simp)) (first
            | (go_at_call 97; refine (s_flag [kd, oc] (g := g) (l := N1 ++ LL ++ nums [s] ++ txts [p]) (by (repeat (first | refine Sat.drew ?_ | refine Sat.drewN ?_ _)); first | exact S7.p1 | exact S7.box _ _ rfl) rfl (by omega) (by simp)).mono ?_; rintro e w8 ⟨v8, rfl, S8⟩; have HS8 := HE.out _ _ S8 (by simp))
            | (go_at_call 98; refine (s_text [p] (g := g) (l := N1 ++ LL ++ nums [s]) (by (repeat (first | refine Sat.drew ?_ | refine Sat.drewN ?_ _)); first | exact S6.p1 | exact S6.p2 | exact (S6.p1.box _ _ rfl).b2 | exact (S6.box _ _ rfl) | exact ((S6.box _ _ rfl).box _ _ (b := w6.heap.size + 1) (by simp)).b2 | exact (S6.p1.box _ _ (b := w6.heap.size + 1) (by simp)) | exact (S6.box _ _ rfl).p1.box _ _ (b := w6.heap.size + 1) (by simp)) rfl (by omega) (by simp)).mono ?_; rintro e w7 ⟨v7, rfl, S7⟩; have HS7 := HE.out _ _ S7 (by simp))
            | (go_at_call 37; refine (s_num [s] (g := g) (l := N1 ++ LL) (by (repeat (first | refine Sat.drew ?_ | refine Sat.drewN ?_ _)); first | exact (S5.box _ _ rfl) | exact ((S5.box _ _ rfl).box _ _ (b := w5.heap.size + 1) (by simp)).b2 | exact ((S5.box _ _ rfl).p1.box _ _ (b := w5.heap.size + 1) (by simp)) | exact (((S5.box _ _ rfl).box _ _ (b := w5.heap.size + 1) (by simp)).b2.box _ _ (b := w5.heap.size + 2) (by simp)).b2 | exact (((S5.box _ _ rfl).p1.box _ _ (b := w5.heap.size + 1) (by simp)).box _ _ (b := w5.heap.size + 2) (by simp)).b2 | exact (((S5.box _ _ rfl).p1.box _ _ (b := w5.heap.size + 1) (by simp)).p1.box _ _ (b := w5.heap.size + 2) (by simp))) rfl (by omega) (by simp)).mono ?_; rintro e w6 ⟨v6, rfl, S6⟩; have HS6 := HE.out _ _ S6 (by simp)))
      all_goals
        have HS := hide S8.p1.drop
        go_wp2_with fail
        go_roundw
        case rel =>
          refine ⟨k + 1, by omega, by go_num, ?_⟩
          rw [HT.out, ← List.append_assoc]
          have S9 := HS.out
          simp only [watB, List.append_assoc] at S9 ⊢
          exact S9
        case measure => simp [RowKit.intOf]; omega
    · obtain rfl : k = ws.length := by omega
      rw [List.take_length] at S4 hle hle2
      generalize hLL : ws.flatMap watB = LW1 at *
      have HLW1 := hide hLL
      have c0 := S4.p1.cell 1 _ rfl
      have hln : (N1 ++ LW1).length ≤ 6000000 := by rw [List.length_append]; omega
      clear hLL hle hle2
      go_wp2_with fail
      refine (s_num [(es.length : Int)] (S4.box _ _ rfl) rfl (by omega) (by simp)).mono ?_
      rintro e w5 ⟨v5, rfl, S5⟩
      have hn2 : (N1 ++ LW1 ++ nums [(es.length : Int)]).length ≤ 6000006 := by rw [List.length_append, nums_length]; simp only [List.length_cons, List.length_nil]; omega
      generalize hN2 : N1 ++ LW1 ++ nums [(es.length : Int)] = N2 at *
      have HN2 := hide hN2
      clear S4 c0 hN2 hln
      have c0 := S5.p1.cell 1 _ rfl
      go_wp2_with fail
      clear c0
      go_loopw [1, 62] (fun u i wr => ∃ k : Nat, k ≤ es.length ∧ i = .int .i64 k ∧ Sat g wr (bytesA u (N2 ++ (es.take k).flatMap evB) :: cellsA t 154 #[.slice A ws.length c, .slice A2 es.length c2, .map (some m)] :: rowA 116 5 (.slice A2 es.length c2) es.length (es.flatMap evC) :: mapA kW kW m nos :: rowA 161 4 (.slice A ws.length c) ws.length (ws.flatMap watC) :: bookA b ⟨ws, es, nos0⟩ :: L)) (fun _ i _ => es.length + 1 - (RowKit.intOf i).toNat)
      case atStart => exact ⟨0, by omega, rfl, by simpa using S5⟩
      case round =>
        obtain ⟨k, hk, rfl, S4⟩ := hrel
        clear S5
        have hle := flat_le evB 65600 evB_le (es.take k)
        have hle2 : (es.take k).length ≤ k := List.length_take_le _ _
        by_cases hlt : k < es.length
        · have hk0 : (0 : Int) ≤ (k : Int) := by omega
          have hk1 : (k : Int) < (es.length : Int) := by omega
          obtain ⟨ad, x, rfl, hx, d0, d1, d2, d3, d4⟩ := ev_at S4.p2.srcR hlt
          have HT := hide (take_flatX evB es k x hx)
          obtain ⟨s, no, p, wh, wn⟩ := x
          generalize hLL : (es.take k).flatMap evB = LL at *
          have HLL := hide hLL
          clear hx hLL
          have hln : (N2 ++ LL).length ≤ 80000000 := by rw [List.length_append]; omega
          have hln2 : (N2 ++ LL ++ nums [s, no]).length ≤ 80000012 := by rw [List.length_append, nums_length]; simp only [List.length_cons, List.length_nil]; omega
          have hln3 : (N2 ++ LL ++ nums [s, no] ++ txts [p]).length ≤ 90000000 := by
            have h1 := txts_le [p]
            simp only [List.length_cons, List.length_nil] at h1
            rw [List.length_append]
            omega
          clear hle hle2
          simp only at d0 d1 d2 d3 d4
          go_upto_region 12 with fail
          have S5 := (S4.box #[.int .i64 s, .int .i64 no, .string (Go.Proofs.YthgiamofndhehaaGreatDoor.S p), .int .i64 wh, .int .i64 wn] 116 rfl).p1
          generalize wr.alloc (.cells #[.int .i64 s, .int .i64 no, .string (Go.Proofs.YthgiamofndhehaaGreatDoor.S p), .int .i64 wh, .int .i64 wn] 116) = w5 at *
          generalize wr.heap.size = xb at *
          clear S4 d0 d1 d2 d3 d4
          have HE : Hid (∀ (w' : World) (L' : List Asn), Sat g w' L' → cellsA xb 116 #[.int .i64 s, .int .i64 no, .string (Go.Proofs.YthgiamofndhehaaGreatDoor.S p), .int .i64 wh, .int .i64 wn] ∈ L' → w'.cell? ⟨xb, 0, none⟩ = some (.int .i64 s) ∧ w'.cell? ⟨xb, 1, none⟩ = some (.int .i64 no) ∧ w'.cell? ⟨xb, 2, none⟩ = some (.string (Go.Proofs.YthgiamofndhehaaGreatDoor.S p)) ∧ w'.cell? ⟨xb, 3, none⟩ = some (.int .i64 wh) ∧ w'.cell? ⟨xb, 4, none⟩ = some (.int .i64 wn)) := hide fun w' L' S' h => ⟨S'.cell_of h 0 _ rfl, S'.cell_of h 1 _ rfl, S'.cell_of h 2 _ rfl, S'.cell_of h 3 _ rfl, S'.cell_of h 4 _ rfl⟩
          have HS5 := HE.out _ _ S5 (by simp)
          go_region_held3 (fun w' => w'.cell? ⟨xb, 0, none⟩ = some (.int .i64 s) ∧ w'.cell? ⟨xb, 1, none⟩ = some (.int .i64 no) ∧ w'.cell? ⟨xb, 2, none⟩ = some (.string (Go.Proofs.YthgiamofndhehaaGreatDoor.S p)) ∧ w'.cell? ⟨xb, 3, none⟩ = some (.int .i64 wh) ∧ w'.cell? ⟨xb, 4, none⟩ = some (.int .i64 wn)) (first
            | (go_keep; done)
            | exact HE.out _ _ (Sat.keep S8 (by (repeat (first | exact Keeps.refl _ _ | refine Keeps.alloc ?_ _ | refine Keeps.drew ?_ | refine Keeps.drewN ?_ _)))) (by simp)
            | exact HE.out _ _ (Sat.keep S7 (by (repeat (first | exact Keeps.refl _ _ | refine Keeps.alloc ?_ _ | refine Keeps.drew ?_ | refine Keeps.drewN ?_ _)))) (by simp)
            | exact HE.out _ _ (Sat.keep S6 (by (repeat (first | exact Keeps.refl _ _ | refine Keeps.alloc ?_ _ | refine Keeps.drew ?_ | refine Keeps.drewN ?_ _)))) (by simp)
            | exact HE.out _ _ (Sat.keep S5 (by (repeat (first | exact Keeps.refl _ _ | refine Keeps.alloc ?_ _ | refine Keeps.drew ?_ | refine Keeps.drewN ?_ _)))) (by simp)) (first
            | (go_at_call 37; refine (s_num [wh, wn] (g := g) (l := N2 ++ LL ++ nums [s, no] ++ txts [p]) (by (repeat (first | refine Sat.drew ?_ | refine Sat.drewN ?_ _)); first | exact S7.p1 | exact S7.box _ _ rfl) rfl (by omega) (by simp)).mono ?_; rintro e w8 ⟨v8, rfl, S8⟩; have HS8 := HE.out _ _ S8 (by simp))
            | (go_at_call 98; refine (s_text [p] (g := g) (l := N2 ++ LL ++ nums [s, no]) (by (repeat (first | refine Sat.drew ?_ | refine Sat.drewN ?_ _)); first | exact S6.p1 | exact S6.p2 | exact (S6.p1.box _ _ rfl).b2 | exact (S6.box _ _ rfl) | exact ((S6.box _ _ rfl).box _ _ (b := w6.heap.size + 1) (by simp)).b2 | exact (S6.p1.box _ _ (b := w6.heap.size + 1) (by simp)) | exact (S6.box _ _ rfl).p1.box _ _ (b := w6.heap.size + 1) (by simp)) rfl (by omega) (by simp)).mono ?_; rintro e w7 ⟨v7, rfl, S7⟩; have HS7 := HE.out _ _ S7 (by simp))
            | (go_at_call 37; refine (s_num [s, no] (g := g) (l := N2 ++ LL) (by (repeat (first | refine Sat.drew ?_ | refine Sat.drewN ?_ _)); first | exact (S5.box _ _ rfl) | exact ((S5.box _ _ rfl).box _ _ (b := w5.heap.size + 1) (by simp)).b2 | exact ((S5.box _ _ rfl).p1.box _ _ (b := w5.heap.size + 1) (by simp)) | exact (((S5.box _ _ rfl).box _ _ (b := w5.heap.size + 1) (by simp)).b2.box _ _ (b := w5.heap.size + 2) (by simp)).b2 | exact (((S5.box _ _ rfl).p1.box _ _ (b := w5.heap.size + 1) (by simp)).box _ _ (b := w5.heap.size + 2) (by simp)).b2 | exact (((S5.box _ _ rfl).p1.box _ _ (b := w5.heap.size + 1) (by simp)).p1.box _ _ (b := w5.heap.size + 2) (by simp))) rfl (by omega) (by simp)).mono ?_; rintro e w6 ⟨v6, rfl, S6⟩; have HS6 := HE.out _ _ S6 (by simp)))
          all_goals
            have HS := hide S8.p1.drop
            go_wp2_with fail
            go_roundw
            case rel =>
              refine ⟨k + 1, by omega, by go_num, ?_⟩
              rw [HT.out, ← List.append_assoc]
              have S9 := HS.out
              simp only [evB, List.append_assoc] at S9 ⊢
              exact S9
            case measure => simp [RowKit.intOf]; omega
        · obtain rfl : k = es.length := by omega
          rw [List.take_length] at S4 hle hle2
          generalize hLL : es.flatMap evB = LE at *
          have HLE := hide hLL
          have hln : (N2 ++ LE).length ≤ 80000000 := by rw [List.length_append]; omega
          have S6 := S4.p3
          have b2 := S6.p2.cell 2 _ rfl
          clear hLL hle hle2
          go_wp2_with (refine wpList_srange rfl _ _ rfl Tryz.underlying151 S6 rfl ?_; intro w9 S9)
          generalize wr.heap.size = ri at *
          clear S4 S6 b2
          go_simp
          go_loopw [10] (fun v wr => ∃ (xs : List Int) (lf : List (Int × Int)), (xs ++ keys lf).Perm (keys nos) ∧ Sat g wr (rangeA kW kW m ri nos lf :: rowA 3 1 v xs.length (Is xs) :: bytesA u1 (N2 ++ LE) :: cellsA t 154 #[.slice A ws.length c, .slice A2 es.length c2, .map (some m)] :: rowA 116 5 (.slice A2 es.length c2) es.length (es.flatMap evC) :: rowA 161 4 (.slice A ws.length c) ws.length (ws.flatMap watC) :: bookA b ⟨ws, es, nos0⟩ :: L)) (fun _ wr => wr.rangeLeft m ri)
          case atStart => exact ⟨[], nos, List.Perm.refl _, S9.nilRow _ _ |>.p1⟩
          case round =>
            obtain ⟨xs, lf, hperm, S10⟩ := hrel
            clear S9
            have hsub := S10.rangeSub
            have hnl : (keys lf).Nodup := hnd.sublist (hsub.map _)
            have hlen : xs.length ≤ 1100 := by
              have h1 := hperm.length_eq
              rw [List.length_append] at h1
              have h2 : (keys nos).length = nos.length := by simp
              omega
            have HML := hide S10.rangeLeft
            have HQ := hide hperm
            clear hperm
            go_wp2_with (at_next; refine wpList_snext rfl _ rfl kWT S10 rfl ?_ ?_)
            · intro hl0
              subst hl0
              have S11 := S10.rangeEnd.p1
              have hz : sortZ xs = sortZ (keys nos) := sortZ_eq (by have := HQ.out; rwa [show keys ([] : List (Int × Int)) = [] from rfl, List.append_nil] at this)
              have hxl : xs.length = nos.length := by
                have := HQ.out.length_eq
                simpa using this
              have hsort := sort_ints S11 (by omega)
              rw [hz, hxl] at hsort
              rw [hxl] at S11
              clear S10 hz
              obtain ⟨A7, c7, rfl, -⟩ := S11.row.form
              go_wp2_with fail
              refine hsort.mono ?_
              rintro e w12 ⟨rfl, S12⟩
              clear S11 hsort
              go_wp2_with fail
              refine (s_num [(nos.length : Int)] (S12.p2.box _ _ rfl) rfl (by omega) (by simp)).mono ?_
              rintro e w13 ⟨v13, rfl, S13⟩
              have hn3 : (N2 ++ LE ++ nums [(nos.length : Int)]).length ≤ 80000006 := by rw [List.length_append, nums_length]; simp only [List.length_cons, List.length_nil]; omega
              generalize hN3 : N2 ++ LE ++ nums [(nos.length : Int)] = N3 at *
              have HN3 := hide hN3
              clear S12 hN3 hln hlen HQ
              have hnzl := normZ_length nos
              have HZA : Hid (∀ (k : Nat) (x : Int), (sortZ (keys nos))[k]? = some x → (normZ nos)[k]? = some (x, (mget nos x).getD 0)) := hide fun k x h => by unfold normZ; rw [List.getElem?_map, h]; rfl
              have HLK : Hid (∀ (w' : World) (L' : List Asn) (x : Int), Sat g w' (mapA kW kW m nos :: L') → (Instr.lookup 151 (.map (some m)) (.int .i64 x) false).run Tryz.prog w' = .ok (.int .i64 ((mget nos x).getD 0)) w') := hide fun w' L' x S' => look_no S' x
              generalize sortZ (keys nos) = SK at *
              generalize normZ nos = NZ at *
              go_wp2_with fail
              go_loopw [1, 106] (fun u i wr => ∃ k : Nat, k ≤ nos.length ∧ i = .int .i64 k ∧ Sat g wr (bytesA u (N3 ++ (NZ.take k).flatMap nosB) :: rowA 3 1 (.slice A7 nos.length c7) nos.length (Is SK) :: mapA kW kW m nos :: cellsA t 154 #[.slice A ws.length c, .slice A2 es.length c2, .map (some m)] :: rowA 116 5 (.slice A2 es.length c2) es.length (es.flatMap evC) :: rowA 161 4 (.slice A ws.length c) ws.length (ws.flatMap watC) :: bookA b ⟨ws, es, nos0⟩ :: L)) (fun _ i _ => nos.length + 1 - (RowKit.intOf i).toNat)
              case atStart => exact ⟨0, by omega, rfl, by simpa using S13⟩
              case round =>
                obtain ⟨k, hk, rfl, S14⟩ := hrel
                clear S13
                have hle := flat_le nosB 12 (fun x => by have := nums_length [x.1, x.2]; simp only [nosB]; simp only [List.length_cons, List.length_nil] at this; omega) (NZ.take k)
                have hle2 : (NZ.take k).length ≤ k := List.length_take_le _ _
                by_cases hlt : k < nos.length
                · have hk0 : (0 : Int) ≤ (k : Int) := by omega
                  have hk1 : (k : Int) < (nos.length : Int) := by omega
                  obtain ⟨ad, u, rfl, hu, hc⟩ := S14.p1.srcT.at_ hlt
                  simp only [Is, List.getElem?_map, Option.map_eq_some_iff] at hu
                  obtain ⟨y, hy, rfl⟩ := hu
                  have HT := hide (take_flatX nosB NZ k _ (HZA.out k y hy))
                  have hlk := HLK.out _ _ y S14.p2
                  have t2 := S14.p3.cell 2 _ rfl
                  generalize (mget nos y).getD 0 = z at *
                  generalize hLL : (NZ.take k).flatMap nosB = LL at *
                  have hln : (N3 ++ LL).length ≤ 90000000 := by rw [List.length_append]; omega
                  clear hy hLL hle hle2
                  go_wp2_with fail
                  refine (s_num [y, z] (S14.box _ _ rfl) rfl (by omega) (by simp)).mono ?_
                  rintro e w15 ⟨v15, rfl, S15⟩
                  clear S14 hlk t2 hc
                  go_wp2_with fail
                  go_roundw
                  case rel => exact ⟨k + 1, by omega, by go_num, by rw [HT.out, ← List.append_assoc]; exact S15⟩
                  case measure => simp [RowKit.intOf]; omega
                · obtain rfl : k = nos.length := by omega
                  rw [← hnzl, List.take_length] at S14
                  have HF : Hid (N3 ++ NZ.flatMap nosB = l ++ LW) := by
                    show _ = _
                    rw [HLW.out, ← HN3.out, ← HN2.out, ← HN1.out]
                    simp only [List.append_assoc]
                  rw [HF.out] at S14
                  have HS := hide (S14.p1.drop.p1.drop.p1.drop.p1.drop.p1.drop)
                  clear S14
                  go_wp2_with fail
                  go_ret
                  exact ⟨_, rfl, HS.out⟩
            · intro y nv w5 hm1 hm2 S11 hlt hen
              have hpl := (mdel_perm hnl hm1).map (·.1)
              have HKP : Hid ((keys lf).Perm (y :: keys (mdel lf y))) := hide hpl
              have HLT := hide hlt
              clear S10 hpl hlt hm1 hm2 hsub hnl
              obtain ⟨A7, c7, rfl, -⟩ := S11.p1.row.form
              go_wp2_with (at_builtin; refine wpList_sapp slI rfl (.tmp 93) (.tmp 95) rfl (g := g) (S := (S11.box #[.int .i64 y] 3 rfl).p2) rfl (Src.block (heap_alloc_new _ _) 1 1 rfl) rfl (by simp [Value.oneCell']) (by unfold maxLen; omega) (by omega) ?_; intro A8 c8 w8 S12)
              have S13 := (S12.p1.drop).p1
              have HS13 : Hid (Sat g w8 (rangeA kW kW m ri nos (mdel lf y) :: rowA 3 1 (.slice A8 (xs.length + 1) c8) (xs ++ [y]).length (Is (xs ++ [y])) :: bytesA u1 (N2 ++ LE) :: cellsA t 154 #[.slice A ws.length c, .slice A2 es.length c2, .map (some m)] :: rowA 116 5 (.slice A2 es.length c2) es.length (es.flatMap evC) :: rowA 161 4 (.slice A ws.length c) ws.length (ws.flatMap watC) :: bookA b ⟨ws, es, nos0⟩ :: L)) := hide (by
                have e1 : (xs ++ [y]).length = xs.length + 1 := by simp
                have e2 : Is (xs ++ [y]) = Is xs ++ [.int .i64 y] := by simp [Is]
                rw [e1, e2]
                exact S13)
              clear S11 S12 S13
              go_roundw
              case rel =>
                refine ⟨xs ++ [y], mdel lf y, ?_, HS13.out⟩
                rw [List.append_assoc]
                exact (HKP.out.symm.append_left xs).trans HQ.out
              case measure => rw [HS13.out.rangeLeft, HML.out]; exact HLT.out
end

section
set_option linter.unusedVariables false
set_option linter.unusedSimpArgs false
def watR (x : RS) : WatT × RS :=
  let a := rn x 281474976710655
  let b := rt a.2 60
  let c := rf b.2
  let d := rf c.2
  (⟨a.1, b.1, c.1, d.1⟩, d.2)
def lastBad (ws : List WatT) (x : WatT) : Bool := match ws.getLast? with
  | some l => decide (0 ≤ ordF l x)
  | none => false
def badW (ws : List WatT) (x : WatT) : Bool := lastBad ws x || decide (checkF x.path ≠ 0) || decide (x.session < 1)
def wsR (x : RS) : Nat → List WatT × RS
  | 0 => ([], x)
  | k + 1 => ((wsR x k).1 ++ [(watR (wsR x k).2).1], if badW (wsR x k).1 (watR (wsR x k).2).1 = true then fl else (watR (wsR x k).2).2)
def evR (x : RS) : EvT × RS :=
  let a := rn x 281474976710655
  let b := rn a.2 281474976710655
  let c := rt b.2 60
  let d := rn c.2 4
  let e := rn d.2 281474976710655
  (⟨a.1, b.1, c.1, d.1, e.1⟩, e.2)
def esR (x : RS) : Nat → List EvT × RS
  | 0 => ([], x)
  | k + 1 => ((esR x k).1 ++ [(evR (esR x k).2).1], (evR (esR x k).2).2)
def noR (x : RS) : (Int × Int) × RS :=
  let a := rn x 281474976710655
  let b := rn a.2 281474976710655
  ((a.1, b.1), b.2)
def nosR (x : RS) : Nat → List (Int × Int) × Int × RS
  | 0 => ([], 0, x)
  | k + 1 => (mput (nosR x k).1 (noR (nosR x k).2.2).1.1 (noR (nosR x k).2.2).1.2, (noR (nosR x k).2.2).1.1, if (noR (nosR x k).2.2).1.1 ≤ (nosR x k).2.1 then fl else (noR (nosR x k).2.2).2)
def wsP (x : RS) : List WatT × RS := wsR (rn x 40).2 (rn x 40).1.toNat
def esP (x : RS) : List EvT × RS := esR (rn x 1024).2 (rn x 1024).1.toNat
def nosP (x : RS) : List (Int × Int) × RS := ((nosR (rn x 1024).2 (rn x 1024).1.toNat).1, (nosR (rn x 1024).2 (rn x 1024).1.toNat).2.2)
def readB (x : RS) : BookT × RS :=
  let a := wsP x
  let b := esP a.2
  let c := nosP b.2
  (if c.2.2 = true then ⟨[], [], []⟩ else ⟨a.1, b.1, c.1⟩, c.2)

theorem wsR_len (x : RS) (k : Nat) : (wsR x k).1.length = k := by
  induction k with
  | zero => rfl
  | succ k ih => simp [wsR, ih]
theorem esR_len (x : RS) (k : Nat) : (esR x k).1.length = k := by
  induction k with
  | zero => rfl
  | succ k ih => simp [esR, ih]
theorem watR_took (x : RS) : Took x (watB (watR x).1) (watR x).2 := by
  have h1 := rn_took x 281474976710655
  have h2 := rt_took (rn x 281474976710655).2 60
  have h3 := rf_took (rt (rn x 281474976710655).2 60).2
  have h4 := rf_took (rf (rt (rn x 281474976710655).2 60).2).2
  have h := h1.trans (h2.trans (h3.trans h4))
  simp only [watB, watR, txts, nums, flags, List.flatMap_cons, List.flatMap_nil, List.append_nil, List.append_assoc, List.map_cons, List.map_nil]
  exact h
theorem evR_took (x : RS) : Took x (evB (evR x).1) (evR x).2 := by
  have h1 := rn_took x 281474976710655
  have h2 := rn_took (rn x 281474976710655).2 281474976710655
  have h3 := rt_took (rn (rn x 281474976710655).2 281474976710655).2 60
  have h4 := rn_took (rt (rn (rn x 281474976710655).2 281474976710655).2 60).2 4
  have h5 := rn_took (rn (rt (rn (rn x 281474976710655).2 281474976710655).2 60).2 4).2 281474976710655
  have h := h1.trans (h2.trans (h3.trans (h4.trans h5)))
  simp only [evB, evR, txts, nums, List.flatMap_cons, List.flatMap_nil, List.append_nil, List.append_assoc]
  exact h
theorem noR_took (x : RS) : Took x (nosB (noR x).1) (noR x).2 := by
  have h1 := rn_took x 281474976710655
  have h2 := rn_took (rn x 281474976710655).2 281474976710655
  have h := h1.trans h2
  simp only [nosB, noR, nums, List.flatMap_cons, List.flatMap_nil, List.append_nil]
  exact h
theorem wsR_took (x : RS) (k : Nat) : Took x ((wsR x k).1.flatMap watB) (wsR x k).2 := by
  induction k with
  | zero => exact Took.nil _
  | succ k ih =>
    simp only [wsR]
    split
    · intro h; simp [fl] at h
    · have := ih.trans (watR_took (wsR x k).2)
      simpa using this
theorem esR_took (x : RS) (k : Nat) : Took x ((esR x k).1.flatMap evB) (esR x k).2 := by
  induction k with
  | zero => exact Took.nil _
  | succ k ih =>
    simp only [esR]
    have := ih.trans (evR_took (esR x k).2)
    simpa using this
/-- numbers in order, as long as nothing failed -/
theorem nosR_good (x : RS) (k : Nat) (h : (nosR x k).2.2.2 = false) : (keys (nosR x k).1).Pairwise (· < ·) ∧ (∀ j ∈ keys (nosR x k).1, j ≤ (nosR x k).2.1) ∧ x.2 = false ∧ x.1 = (nosR x k).1.flatMap nosB ++ (nosR x k).2.2.1 := by
  induction k with
  | zero => exact ⟨by simp [nosR], by simp [nosR], h, by simp [nosR]⟩
  | succ k ih =>
    simp only [nosR] at h ⊢
    split at h
    · simp [fl] at h
    · rename_i hb
      rw [if_neg hb]
      have ht := noR_took (nosR x k).2.2 h
      obtain ⟨h1, h2, h3, h4⟩ := ih ht.1
      have hfresh : (noR (nosR x k).2.2).1.1 ∉ keys (nosR x k).1 := fun hm => by have := h2 _ hm; omega
      have hput : mput (nosR x k).1 (noR (nosR x k).2.2).1.1 (noR (nosR x k).2.2).1.2 = (nosR x k).1 ++ [(noR (nosR x k).2.2).1] := by
        unfold mput
        rw [mget_none.2 hfresh]
        rfl
      have hk : keys ((nosR x k).1 ++ [(noR (nosR x k).2.2).1]) = keys (nosR x k).1 ++ [(noR (nosR x k).2.2).1.1] := by simp [keys]
      rw [hput, hk]
      refine ⟨?_, ?_, h3, ?_⟩
      · rw [List.pairwise_append]
        refine ⟨h1, by simp, fun a ha b hb => ?_⟩
        simp only [List.mem_singleton] at hb
        subst hb
        have := h2 a ha
        omega
      · intro j hj
        rcases List.mem_append.1 hj with hj | hj
        · have := h2 j hj; omega
        · simp only [List.mem_singleton] at hj; omega
      · rw [h4, ht.2, List.flatMap_append]
        simp
theorem normZ_asc {l : List (Int × Int)} (h : (keys l).Pairwise (· < ·)) : normZ l = l := by
  unfold normZ
  rw [sortZ_asc h]
  have hn : (keys l).Nodup := h.imp fun {a b} h e => by omega
  simp only [keys, List.map_map]
  conv => rhs; rw [← List.map_id l]
  apply List.map_congr_left
  intro p hp
  simp [mget_some hn (show (p.1, p.2) ∈ l from hp)]
theorem wsP_took (x : RS) : Took x (nums [((wsP x).1.length : Int)] ++ (wsP x).1.flatMap watB) (wsP x).2 := by
  have h0 := rn_took x 40
  have hl := rn_lo x 40
  have e : (((wsP x).1.length : Nat) : Int) = (rn x 40).1 := by unfold wsP; rw [wsR_len]; omega
  rw [e]
  have := h0.trans (wsR_took (rn x 40).2 (rn x 40).1.toNat)
  simpa [nums, wsP] using this
theorem esP_took (x : RS) : Took x (nums [((esP x).1.length : Int)] ++ (esP x).1.flatMap evB) (esP x).2 := by
  have h0 := rn_took x 1024
  have hl := rn_lo x 1024
  have e : (((esP x).1.length : Nat) : Int) = (rn x 1024).1 := by unfold esP; rw [esR_len]; omega
  rw [e]
  have := h0.trans (esR_took (rn x 1024).2 (rn x 1024).1.toNat)
  simpa [nums, esP] using this
theorem nosR_full (x : RS) (k : Nat) (h : (nosR x k).2.2.2 = false) : (nosR x k).1.length = k := by
  induction k with
  | zero => rfl
  | succ k ih =>
    simp only [nosR] at h ⊢
    split at h
    · simp [fl] at h
    · rename_i hb
      have ht := noR_took (nosR x k).2.2 h
      obtain ⟨h1, h2, h3, h4⟩ := nosR_good x k ht.1
      have hfresh : (noR (nosR x k).2.2).1.1 ∉ keys (nosR x k).1 := fun hm => by have := h2 _ hm; omega
      rw [length_mput, if_neg hfresh, ih ht.1]
theorem nosP_took (x : RS) (h : (nosP x).2.2 = false) : x.2 = false ∧ x.1 = nums [((nosP x).1.length : Int)] ++ (normZ (nosP x).1).flatMap nosB ++ (nosP x).2.1 := by
  have hl := rn_lo x 1024
  unfold nosP at h ⊢
  simp only at h ⊢
  obtain ⟨h1, h2, h3, h4⟩ := nosR_good _ _ h
  obtain ⟨h5, h6⟩ := rn_took x 1024 h3
  refine ⟨h5, ?_⟩
  rw [normZ_asc h1, nosR_full _ _ h]
  have e : (((rn x 1024).1.toNat : Nat) : Int) = (rn x 1024).1 := by omega
  rw [e, h6, h4]
  simp [nums]
end

section
set_option linter.unusedVariables false
set_option linter.unusedSimpArgs false
open Go.RowKit Go.MapKept

section
variable {κ α : Type} [DecidableEq κ] {kv : κ → Value} {ev : α → Value} {w : World} {b : Nat} {m : List (κ × α)} {P : Program} {kt : TypeId} {d : TypeDesc}
theorem MapOf.entry (h : MapOf kv ev w b m) (K : KeyT P kt d kv) {t et : TypeId} (ht : P.underlying t = some (.map kt et)) {z : Value} (hz : (zeroValue et).run P w = .ok z w) (k : κ) (v : α) :
    ∃ (u : Value) (st : Nat) (w1 w2 : World), (Instr.mapEntry t (.map (some b)) (kv k)).run P w = .ok (.tuple #[u, .int .i64 st]) w1 ∧ (Instr.entryStore t (.map (some b)) (.int .i64 st) (ev v)).run P w1 = .ok () w2 ∧
      (∀ a : Addr, a.block ≠ b → w1.cell? a = w.cell? a) ∧ MapOf kv ev w2 b (mput m k v) ∧ Keeps (fun i => i = b) w w2 := by
  obtain ⟨w', hup, hm, hk⟩ := h.update K ht k v
  obtain ⟨es, clock, hb, hs, he⟩ := h
  have hks := ents_key K he
  have hcell : ∀ (o : Obj) (a : Addr), a.block ≠ b → ({ w with heap := w.heap.setIfInBounds b o } : World).cell? a = w.cell? a := fun o a ha => World.cell?_of_block ((heap_set hb).2 a.block ha)
  rcases findNow_spec (K.key k) es.toList 0 hks with ⟨h1, h2⟩ | ⟨j, e, h1, h2, h3⟩
  · have e0 : (Instr.mapUpdate t (.map (some b)) (kv k) (ev v)).run P w = .ok () { w with heap := w.heap.setIfInBounds b (.map (es.push { key := kv k, val := ev v, born := clock }) (clock + 1)) } := by
      simp [Instr.mapUpdate, run_underlying ht, MapKept.run_getObj_map hb, run_checkKey K.und (K.key k), run_findKey K.und h1, run_setObj_map _ hb, Result.andThen]
    rw [hup] at e0
    injection e0 with _ e0
    subst e0
    refine ⟨z, clock, { w with heap := w.heap.setIfInBounds b (.map (es.push { key := kv k, val := z, born := clock }) (clock + 1)) }, _, ?_, ?_, fun a ha => hcell _ a ha, hm, hk⟩
    · simp [Instr.mapEntry, run_underlying ht, MapKept.run_getObj_map hb, run_checkKey K.und (K.key k), run_findKey K.und h1, run_setObj_map _ hb, Result.andThen, hz, goInt]
    · have hb1 : ({ w with heap := w.heap.setIfInBounds b (.map (es.push { key := kv k, val := z, born := clock }) (clock + 1)) } : World).heap[b]? = some (.map (es.push { key := kv k, val := z, born := clock }) (clock + 1)) := (heap_set hb).1
      have hf : (es.push { key := kv k, val := z, born := clock }).findIdx? (fun e => (e.born : Int) == (clock : Int)) = some es.size := by
        rw [Array.findIdx?_push]
        have : es.findIdx? (fun e => (e.born : Int) == (clock : Int)) = none := by
          rw [Array.findIdx?_eq_none_iff]
          intro x hx
          have := hs.1 x (by simpa using hx)
          simp
          omega
        rw [this]
        simp
      have ha : (es.push { key := kv k, val := z, born := clock }).modify es.size (fun e => { e with val := ev v }) = es.push { key := kv k, val := ev v, born := clock } := by
        apply Array.ext
        · simp
        · intro i h4 h5
          simp only [Array.getElem_modify, Array.getElem_push]
          by_cases hi : i < es.size
          · have hne : ¬ es.size = i := by omega
            simp [hi, hne]
          · have hne : es.size = i := by simp at h4; omega
            simp [hi, hne]
      simp only [Instr.entryStore, Sem.run_bind, MapKept.run_getObj_map hb1, Result.andThen_ok, asInt, asIntOf, Sem.run_pure, hf, run_setObj_map _ hb1, ha]
      simp
  · have hj : es[j]? = some e := by simpa using h2
    have e0 : (Instr.mapUpdate t (.map (some b)) (kv k) (ev v)).run P w = .ok () { w with heap := w.heap.setIfInBounds b (.map (es.modify j fun e => { e with key := kv k, val := ev v }) clock) } := by
      simp [Instr.mapUpdate, run_underlying ht, MapKept.run_getObj_map hb, run_checkKey K.und (K.key k), run_findKey K.und h1, hj, h3, run_keyThatStays (K.key k), run_setObj_map _ hb, Result.andThen]
    rw [hup] at e0
    injection e0 with _ e0
    subst e0
    refine ⟨e.val, e.born, { w with heap := w.heap.setIfInBounds b (.map (es.modify j fun e => { e with key := kv k }) clock) }, _, ?_, ?_, fun a ha => hcell _ a ha, hm, hk⟩
    · simp [Instr.mapEntry, run_underlying ht, MapKept.run_getObj_map hb, run_checkKey K.und (K.key k), run_findKey K.und h1, hj, h3, run_keyThatStays (K.key k), run_setObj_map _ hb, Result.andThen, goInt]
    · have hb1 : ({ w with heap := w.heap.setIfInBounds b (.map (es.modify j fun e => { e with key := kv k }) clock) } : World).heap[b]? = some (.map (es.modify j fun e => { e with key := kv k }) clock) := (heap_set hb).1
      have hjl : j < es.size := (Array.getElem?_eq_some_iff.1 hj).1
      have hje : es[j] = e := (Array.getElem?_eq_some_iff.1 hj).2
      have hf : (es.modify j fun e => { e with key := kv k }).findIdx? (fun x => (x.born : Int) == (e.born : Int)) = some j := by
        rw [Array.findIdx?_eq_some_iff_getElem]
        refine ⟨by simpa using hjl, ?_, fun i hi => ?_⟩
        · simp [Array.getElem_modify, hje]
        · have hn := List.pairwise_iff_getElem.1 hs.2.1
          have := hn i j (by simp; omega) (by simpa using hjl) hi
          simp only [List.getElem_map, Array.getElem_toList, hje] at this
          have hij : ¬ j = i := by omega
          simp [Array.getElem_modify, hij]
          omega
      have ha : (es.modify j fun e => { e with key := kv k }).modify j (fun e => { e with val := ev v }) = es.modify j fun e => { e with key := kv k, val := ev v } := by
        apply Array.ext
        · simp
        · intro i h4 h5
          simp only [Array.getElem_modify]
          split <;> rfl
      simp only [Instr.entryStore, Sem.run_bind, MapKept.run_getObj_map hb1, Result.andThen_ok, asInt, asIntOf, Sem.run_pure, hf, run_setObj_map _ hb1, ha]
      simp
end
end

section
set_option linter.unusedVariables false
set_option linter.unusedSimpArgs false
open Go.RowKit

theorem lastBad_at {ws : List WatT} {x l : WatT} (h : ws[ws.length - 1]? = some l) : lastBad ws x = decide (0 ≤ ordF l x) := by
  unfold lastBad
  rw [List.getLast?_eq_getElem?, h]
set_option maxRecDepth 100000 in
set_option maxHeartbeats 16000000 in
theorem read_book {g w : World} {L : List Asn} {r : Nat} {x : RS} (S0 : Sat g w (rdA r x :: L)) (hG : GL g) (hm : oldA g ∈ L) :
    Calls Tryz.prog 66 #[ptr r] w fun e w' => ∃ t, e = .returned (ptr t) ∧ Sat g w' (bookA t (readB x).1 :: rdA r (readB x).2 :: L) := by
  have HGL : Hid (∀ {w : World} {L' : List Asn}, Sat g w L' → oldA g ∈ L' → GL w) := fun S h => hG.at S h
  have HM := hide hm
  have HRB : Hid (readB x = (if (nosP (esP (wsP x).2).2).2.2 = true then ⟨[], [], []⟩ else ⟨(wsP x).1, (esP (wsP x).2).1, (nosP (esP (wsP x).2).2).1⟩, (nosP (esP (wsP x).2).2).2)) := rfl
  have HWP : Hid (wsP x = wsR (rn x 40).2 (rn x 40).1.toNat) := rfl
  have hn1 := rn_lo x 40
  have hn2 := rn_hi x 40 (by decide)
  generalize readB x = RB at *
  clear hG hm
  go_enter Tryz.func66, Tryz.ntmps66
  go_wp2_with fail
  refine (new_book S0).mono ?_
  rintro e w1 ⟨t, rfl, S1⟩
  go_wp2_with fail
  refine (s_rnum 40 S1.p1).mono ?_
  rintro e w2 ⟨rfl, S2⟩
  generalize wsP x = WP at *
  generalize rn x 40 = a0 at *
  obtain ⟨n, x0⟩ := a0
  simp only at HWP hn1 hn2 S2 ⊢
  obtain ⟨N, rfl⟩ := Int.eq_ofNat_of_zero_le hn1
  simp only [Int.toNat_natCast] at HWP
  clear S0 S1
  go_wp2_with fail
  go_loopw [13] (fun i wr => ∃ k : Nat, k ≤ N ∧ i = .int .i64 k ∧ Sat g wr (rdA r (wsR x0 k).2 :: bookA t ⟨(wsR x0 k).1, [], []⟩ :: L)) (fun i _ => N + 1 - (RowKit.intOf i).toNat)
  case atStart => exact ⟨0, by omega, rfl, S2⟩
  case round =>
    obtain ⟨k, hk, rfl, S3⟩ := hrel
    have hwl := wsR_len x0 k
    have HST : Hid (wsR x0 (k + 1) = ((wsR x0 k).1 ++ [(watR (wsR x0 k).2).1], if badW (wsR x0 k).1 (watR (wsR x0 k).2).1 = true then fl else (watR (wsR x0 k).2).2)) := rfl
    clear S2
    by_cases hlt : k < N
    · generalize (wsR x0 k).1 = ws at *
      generalize (wsR x0 k).2 = y at *
      subst hwl
      have HE : Hid (watR y = (⟨(rn y 281474976710655).1, (rt (rn y 281474976710655).2 60).1, (rf (rt (rn y 281474976710655).2 60).2).1, (rf (rf (rt (rn y 281474976710655).2 60).2).2).1⟩, (rf (rf (rt (rn y 281474976710655).2 60).2).2).2)) := rfl
      go_wp2_with fail
      refine (s_rnum 281474976710655 S3).mono ?_
      rintro e wq1 ⟨rfl, Q1⟩
      generalize rn y 281474976710655 = a1 at *
      obtain ⟨t1, y1⟩ := a1
      simp only at HE Q1 ⊢
      clear S3
      go_wp2_with fail
      refine (s_rtext 60 Q1).mono ?_
      rintro e wq2 ⟨rfl, Q2⟩
      have hlt2 := rt_len y1 60 (by decide)
      generalize rt y1 60 = a2 at *
      obtain ⟨t2, y2⟩ := a2
      simp only at HE Q2 hlt2 ⊢
      clear Q1
      go_wp2_with fail
      refine (s_rflag Q2).mono ?_
      rintro e wq3 ⟨rfl, Q3⟩
      generalize rf y2 = a3 at *
      obtain ⟨t3, y3⟩ := a3
      simp only at HE Q3 ⊢
      clear Q2
      go_wp2_with fail
      refine (s_rflag Q3).mono ?_
      rintro e wq4 ⟨rfl, Q4⟩
      generalize rf y3 = a4 at *
      obtain ⟨t4, y4⟩ := a4
      simp only at HE Q4 ⊢
      clear Q3
      have HSB : Hid (wsR x0 (ws.length + 1) = (ws ++ [⟨t1, t2, t3, t4⟩], if badW ws ⟨t1, t2, t3, t4⟩ = true then fl else y4)) := hide (by rw [HST.out, HE.out])
      have HBW : Hid (badW ws ⟨t1, t2, t3, t4⟩ = (lastBad ws ⟨t1, t2, t3, t4⟩ || decide (checkF t2 ≠ 0) || decide (t1 < 1))) := rfl
      generalize badW ws ⟨t1, t2, t3, t4⟩ = BD at *
      clear HST HE
      go_upto_region 5 with fail
      have S4 := (Q4.box #[.int .i64 t1, .string (S t2), .bool t3, .bool t4] 161 rfl).p2
      generalize wq4.alloc (.cells #[.int .i64 t1, .string (S t2), .bool t3, .bool t4] 161) = w5 at *
      generalize wq4.heap.size = xb at *
      obtain ⟨wv, S5⟩ := S4.bookOpen
      obtain ⟨ev, m, S6⟩ := S5.notesOpen
      obtain ⟨A, c, rfl, -⟩ := S6.p3.row.form
      have SX : Sat g w5 (cellsA t 154 #[.slice A ws.length c, ev, .map (some m)] :: rowA 116 5 ev 0 [] :: mapA kW kW m [] :: rowA 161 4 (.slice A ws.length c) ws.length (ws.flatMap watC) :: cellsA xb 161 #[.int .i64 t1, .string (S t2), .bool t3, .bool t4] :: rdA r y4 :: L) := S6
      clear Q4 S4 S5 S6
      have c0 := SX.cell 0 _ rfl
      have HX : Hid (∀ (w' : World) (L' : List Asn), Sat g w' L' → cellsA xb 161 #[.int .i64 t1, .string (S t2), .bool t3, .bool t4] ∈ L' → w'.cell? ⟨xb, 0, none⟩ = some (.int .i64 t1) ∧ w'.cell? ⟨xb, 1, none⟩ = some (.string (S t2)) ∧ w'.cell? ⟨xb, 2, none⟩ = some (.bool t3) ∧ w'.cell? ⟨xb, 3, none⟩ = some (.bool t4)) := hide fun w' L' S' h => ⟨S'.cell_of h 0 _ rfl, S'.cell_of h 1 _ rfl, S'.cell_of h 2 _ rfl, S'.cell_of h 3 _ rfl⟩
      obtain ⟨x0', x1', x2', x3'⟩ := HX.out _ _ SX (by simp)
      have hcc := check_cases t2
      have HCH : Hid (∀ (w' : World), GL w' → Calls Tryz.prog 40 #[.string (S t2)] w' fun e w2 => e = .returned (.int .i64 (checkF t2)) ∧ Keeps (fun _ => False) w' w2) := hide fun w' h => check_path w' t2 (by omega) h
      have HKL : Hid (∀ w', Keeps (fun _ => False) w5 w' → GL w') := hide fun w' h => HGL.out (SX.keep h) (by simp [HM.out])
      generalize checkF t2 = C at *
      clear hlt2
      go_upto_region 6 with fail
      by_cases hpos : 0 < ws.length
      · obtain ⟨q, hq⟩ : ∃ q, ws.length = q + 1 := ⟨ws.length - 1, by omega⟩
        have hqi : (ws.length : Int) - 1 = (q : Int) := by omega
        have hql : (q : Int) < (ws.length : Int) := by omega
        have hq0 : (0 : Int) ≤ (q : Int) := by omega
        have hwr : IntKind.i64.wrap (q : Int) = (q : Int) := IntWalk.i64_in _ ⟨by omega, by omega⟩
        have hposb : (0 : Int) < (ws.length : Int) := by omega
        obtain ⟨ad, l, rfl, hx, d0, d1, d2, d3⟩ := wat_at SX.p3.srcR (k := q) (by omega)
        have HLB : Hid (lastBad ws ⟨t1, t2, t3, t4⟩ = decide (0 ≤ ordF l ⟨t1, t2, t3, t4⟩)) := hide (lastBad_at (by rw [hq]; exact hx))
        have HORD : Hid (∀ w', Calls Tryz.prog 101 #[watV l, watV ⟨t1, t2, t3, t4⟩] w' fun e w2 => e = .returned (.int .i64 (ordF l ⟨t1, t2, t3, t4⟩)) ∧ Keeps (fun _ => False) w' w2) := hide fun w' => order_watch w' l ⟨t1, t2, t3, t4⟩
        generalize ordF l ⟨t1, t2, t3, t4⟩ = OR at *
        obtain ⟨l1, l2, l3, l4⟩ := l
        simp only at d0 d1 d2 d3
        simp only [watV] at HORD
        have HSW : Hid (∀ w', Keeps (fun _ => False) w5 w' → w'.cell? ⟨t, 0, none⟩ = some (.slice (some ad) ws.length c) ∧ w'.cell? (ad.add (q * 4)) = some (.int .i64 l1) ∧ w'.cell? ⟨(ad.add (q * 4)).block, (ad.add (q * 4)).off + 1, none⟩ = some (.string (S l2)) ∧ w'.cell? ⟨(ad.add (q * 4)).block, (ad.add (q * 4)).off + 2, none⟩ = some (.bool l3) ∧ w'.cell? ⟨(ad.add (q * 4)).block, (ad.add (q * 4)).off + 3, none⟩ = some (.bool l4) ∧ w'.cell? ⟨xb, 0, none⟩ = some (.int .i64 t1) ∧ w'.cell? ⟨xb, 1, none⟩ = some (.string (S t2)) ∧ w'.cell? ⟨xb, 2, none⟩ = some (.bool t3) ∧ w'.cell? ⟨xb, 3, none⟩ = some (.bool t4)) := hide fun w' h => ⟨h.cell c0 (fun h => h), h.cell d0 (fun h => h), h.cell d1 (fun h => h), h.cell d2 (fun h => h), h.cell d3 (fun h => h), h.cell x0' (fun h => h), h.cell x1' (fun h => h), h.cell x2' (fun h => h), h.cell x3' (fun h => h)⟩
        clear hx hq
        by_cases hor : 0 ≤ OR
        · have hbd : BD = true := by rw [HBW.out, HLB.out]; simp [hor]
          subst hbd
          clear HBW HLB
          refine wp_region_held_drew (S := fun w' => w'.cell? ⟨t, 0, none⟩ = some (.slice (some ad) ws.length c) ∧ w'.cell? (ad.add (q * 4)) = some (.int .i64 l1) ∧ w'.cell? ⟨(ad.add (q * 4)).block, (ad.add (q * 4)).off + 1, none⟩ = some (.string (S l2)) ∧ w'.cell? ⟨(ad.add (q * 4)).block, (ad.add (q * 4)).off + 2, none⟩ = some (.bool l3) ∧ w'.cell? ⟨(ad.add (q * 4)).block, (ad.add (q * 4)).off + 3, none⟩ = some (.bool l4) ∧ w'.cell? ⟨xb, 0, none⟩ = some (.int .i64 t1) ∧ w'.cell? ⟨xb, 1, none⟩ = some (.string (S t2)) ∧ w'.cell? ⟨xb, 2, none⟩ = some (.bool t3) ∧ w'.cell? ⟨xb, 3, none⟩ = some (.bool t4)) (by kernel_rfl) ?_ (fun hHeld => ?_)
          · exact HSW.out _ (((Keeps.refl (fun _ => False) w5).drew))
          refine wpAnyH_take (i := 0) (oi := _) (v := ?_) rfl (by kernel_rfl) (by kernel_rfl) (by kernel_rfl) (fun _ _ _ h => h) (Or.inl ⟨by rfl, ?_⟩) hHeld ?_
          rotate_left
          · intro w' hSw
            (try dsimp only at hSw)
            go_simp
            try with_reducible rfl
          try simp only [Act.put, List.setIfInBounds_toArray, List.set_cons_zero, List.set_cons_succ, List.getElem_toArray, List.getElem_cons_zero, List.getElem_cons_succ]
          refine wpAnyH_take (i := 1) (oi := _) (v := ?_) rfl (by kernel_rfl) (by kernel_rfl) (by kernel_rfl) (fun _ _ _ h => h) (Or.inl ⟨by rfl, ?_⟩) hHeld ?_
          rotate_left
          · intro w' hSw
            (try dsimp only at hSw)
            go_simp
            try with_reducible rfl
          try simp only [Act.put, List.setIfInBounds_toArray, List.set_cons_zero, List.set_cons_succ, List.getElem_toArray, List.getElem_cons_zero, List.getElem_cons_succ]
          refine wpAnyH_take (i := 2) (oi := _) (v := ?_) rfl (by kernel_rfl) (by kernel_rfl) (by kernel_rfl) (fun _ _ _ h => h) (Or.inl ⟨by rfl, ?_⟩) hHeld ?_
          rotate_left
          · intro w' hSw
            (try dsimp only at hSw)
            go_simp
            try with_reducible rfl
          try simp only [Act.put, List.setIfInBounds_toArray, List.set_cons_zero, List.set_cons_succ, List.getElem_toArray, List.getElem_cons_zero, List.getElem_cons_succ]
          refine wpAnyH_take (i := 3) (oi := _) (v := ?_) rfl (by kernel_rfl) (by kernel_rfl) (by kernel_rfl) (fun _ _ _ h => h) (Or.inl ⟨by rfl, ?_⟩) hHeld ?_
          rotate_left
          · intro w' hSw
            (try dsimp only at hSw)
            go_simp
            try with_reducible rfl
          try simp only [Act.put, List.setIfInBounds_toArray, List.set_cons_zero, List.set_cons_succ, List.getElem_toArray, List.getElem_cons_zero, List.getElem_cons_succ]
          refine wpAnyH_take (i := 4) (oi := _) (v := ?_) rfl (by kernel_rfl) (by kernel_rfl) (by kernel_rfl) (fun _ _ _ h => h) (Or.inl ⟨by rfl, ?_⟩) hHeld ?_
          rotate_left
          · intro w' hSw
            (try dsimp only at hSw)
            go_simp
            try with_reducible rfl
          try simp only [Act.put, List.setIfInBounds_toArray, List.set_cons_zero, List.set_cons_succ, List.getElem_toArray, List.getElem_cons_zero, List.getElem_cons_succ]
          refine wpAnyH_take (i := 5) (oi := _) (v := ?_) rfl (by kernel_rfl) (by kernel_rfl) (by kernel_rfl) (fun _ _ _ h => h) (Or.inl ⟨by rfl, ?_⟩) hHeld ?_
          rotate_left
          · intro w' hSw
            (try dsimp only at hSw)
            go_simp
            try with_reducible rfl
          try simp only [Act.put, List.setIfInBounds_toArray, List.set_cons_zero, List.set_cons_succ, List.getElem_toArray, List.getElem_cons_zero, List.getElem_cons_succ]
          refine wpAnyH_take (i := 6) (oi := _) (v := ?_) rfl (by kernel_rfl) (by kernel_rfl) (by kernel_rfl) (fun _ _ _ h => h) (Or.inl ⟨by rfl, ?_⟩) hHeld ?_
          rotate_left
          · intro w' hSw
            (try dsimp only at hSw)
            go_simp
            try with_reducible rfl
          try simp only [Act.put, List.setIfInBounds_toArray, List.set_cons_zero, List.set_cons_succ, List.getElem_toArray, List.getElem_cons_zero, List.getElem_cons_succ]
          refine wpAnyH_take (i := 7) (oi := _) (v := ?_) rfl (by kernel_rfl) (by kernel_rfl) (by kernel_rfl) (fun _ _ _ h => h) (Or.inl ⟨by rfl, ?_⟩) hHeld ?_
          rotate_left
          · intro w' hSw
            (try dsimp only at hSw)
            go_simp
            try with_reducible rfl
          try simp only [Act.put, List.setIfInBounds_toArray, List.set_cons_zero, List.set_cons_succ, List.getElem_toArray, List.getElem_cons_zero, List.getElem_cons_succ]
          refine wpAnyH_take (i := 8) (oi := _) (v := ?_) rfl (by kernel_rfl) (by kernel_rfl) (by kernel_rfl) (fun _ _ _ h => h) (Or.inl ⟨by rfl, ?_⟩) hHeld ?_
          rotate_left
          · intro w' hSw
            (try dsimp only at hSw)
            go_simp
            try with_reducible rfl
          try simp only [Act.put, List.setIfInBounds_toArray, List.set_cons_zero, List.set_cons_succ, List.getElem_toArray, List.getElem_cons_zero, List.getElem_cons_succ]
          refine wpAnyH_take (i := 9) (oi := _) (v := ?_) rfl (by kernel_rfl) (by kernel_rfl) (by kernel_rfl) (fun _ _ _ h => h) (Or.inl ⟨by rfl, ?_⟩) hHeld ?_
          rotate_left
          · intro w' hSw
            (try dsimp only at hSw)
            go_simp
            try with_reducible rfl
          try simp only [Act.put, List.setIfInBounds_toArray, List.set_cons_zero, List.set_cons_succ, List.getElem_toArray, List.getElem_cons_zero, List.getElem_cons_succ]
          refine wpAnyH_take (i := 10) (oi := _) (v := ?_) rfl (by kernel_rfl) (by kernel_rfl) (by kernel_rfl) (fun _ _ _ h => h) (Or.inl ⟨by rfl, ?_⟩) hHeld ?_
          rotate_left
          · intro w' hSw
            (try dsimp only at hSw)
            go_simp
            try with_reducible rfl
          try simp only [Act.put, List.setIfInBounds_toArray, List.set_cons_zero, List.set_cons_succ, List.getElem_toArray, List.getElem_cons_zero, List.getElem_cons_succ]
          refine wpAnyH_take (i := 11) (oi := _) (v := ?_) rfl (by kernel_rfl) (by kernel_rfl) (by kernel_rfl) (fun _ _ _ h => h) (Or.inl ⟨by rfl, ?_⟩) hHeld ?_
          rotate_left
          · intro w' hSw
            (try dsimp only at hSw)
            go_simp
            try with_reducible rfl
          try simp only [Act.put, List.setIfInBounds_toArray, List.set_cons_zero, List.set_cons_succ, List.getElem_toArray, List.getElem_cons_zero, List.getElem_cons_succ]
          refine wpAnyH_ready (rs := [12]) (by kernel_rfl) (by simp) ?_
          refine AllReadyH.cons rfl (fun K hK => ?_) ?_
          · go_simp
            go_at_call 101
            refine (HORD.out _).mono ?_
            rintro e w6 ⟨rfl, hk6⟩
            have K6 := (((Keeps.refl (fun _ => False) w5).drew)).trans' hk6
            have HQ6 := HSW.out _ K6
            refine hK.out _ _ ?_ (fun hHeld => ?_)
            · exact HSW.out _ K6
            clear hK K
            try simp only [Act.put, List.setIfInBounds_toArray, List.set_cons_zero, List.set_cons_succ, List.getElem_toArray, List.getElem_cons_zero, List.getElem_cons_succ]
            refine wpAnyH_take (i := 13) (oi := _) (v := ?_) rfl (by kernel_rfl) (by kernel_rfl) (by kernel_rfl) (fun _ _ _ h => h) (Or.inl ⟨by rfl, ?_⟩) hHeld ?_
            rotate_left
            · intro w' hSw
              (try dsimp only at hSw)
              go_simp
              try with_reducible rfl
            try simp only [Act.put, List.setIfInBounds_toArray, List.set_cons_zero, List.set_cons_succ, List.getElem_toArray, List.getElem_cons_zero, List.getElem_cons_succ]
            refine wpAnyH_take (i := 14) (oi := _) (v := ?_) rfl (by kernel_rfl) (by kernel_rfl) (by kernel_rfl) (fun _ _ _ h => h) (Or.inl ⟨by rfl, ?_⟩) hHeld ?_
            rotate_left
            · intro w' hSw
              (try dsimp only at hSw)
              go_simp
              try with_reducible rfl
            try simp only [Act.put, List.setIfInBounds_toArray, List.set_cons_zero, List.set_cons_succ, List.getElem_toArray, List.getElem_cons_zero, List.getElem_cons_succ]
            refine wpAnyH_take (i := 15) (oi := _) (v := ?_) rfl (by kernel_rfl) (by kernel_rfl) (by kernel_rfl) (fun _ _ _ h => h) (Or.inl ⟨by rfl, ?_⟩) hHeld ?_
            rotate_left
            · intro w' hSw
              (try dsimp only at hSw)
              go_simp
              try with_reducible rfl
            try simp only [Act.put, List.setIfInBounds_toArray, List.set_cons_zero, List.set_cons_succ, List.getElem_toArray, List.getElem_cons_zero, List.getElem_cons_succ]
            refine wpAnyH_take (i := 16) (oi := _) (v := undef) rfl (by kernel_rfl) (by kernel_rfl) (by kernel_rfl) (fun _ _ _ h => h) (Or.inr ⟨by rfl, rfl⟩) hHeld ?_
            try simp only [Act.put, List.setIfInBounds_toArray, List.set_cons_zero, List.set_cons_succ, List.getElem_toArray, List.getElem_cons_zero, List.getElem_cons_succ]
            refine wpAnyH_take (i := 17) (oi := _) (v := undef) rfl (by kernel_rfl) (by kernel_rfl) (by kernel_rfl) (fun _ _ _ h => h) (Or.inr ⟨by rfl, rfl⟩) hHeld ?_
            try simp only [Act.put, List.setIfInBounds_toArray, List.set_cons_zero, List.set_cons_succ, List.getElem_toArray, List.getElem_cons_zero, List.getElem_cons_succ]
            refine wpAnyH_take (i := 18) (oi := _) (v := undef) rfl (by kernel_rfl) (by kernel_rfl) (by kernel_rfl) (fun _ _ _ h => h) (Or.inr ⟨by rfl, rfl⟩) hHeld ?_
            try simp only [Act.put, List.setIfInBounds_toArray, List.set_cons_zero, List.set_cons_succ, List.getElem_toArray, List.getElem_cons_zero, List.getElem_cons_succ]
            refine wpAnyH_take (i := 19) (oi := _) (v := undef) rfl (by kernel_rfl) (by kernel_rfl) (by kernel_rfl) (fun _ _ _ h => h) (Or.inr ⟨by rfl, rfl⟩) hHeld ?_
            try simp only [Act.put, List.setIfInBounds_toArray, List.set_cons_zero, List.set_cons_succ, List.getElem_toArray, List.getElem_cons_zero, List.getElem_cons_succ]
            refine wpAnyH_take (i := 20) (oi := _) (v := ?_) rfl (by kernel_rfl) (by kernel_rfl) (by kernel_rfl) (fun _ _ _ h => h) (Or.inl ⟨by rfl, ?_⟩) hHeld ?_
            rotate_left
            · intro w' hSw
              (try dsimp only at hSw)
              go_simp
              try with_reducible rfl
            try simp only [Act.put, List.setIfInBounds_toArray, List.set_cons_zero, List.set_cons_succ, List.getElem_toArray, List.getElem_cons_zero, List.getElem_cons_succ]
            refine wpAnyH_take (i := 21) (oi := _) (v := ?_) rfl (by kernel_rfl) (by kernel_rfl) (by kernel_rfl) (fun _ _ _ h => h) (Or.inl ⟨by rfl, ?_⟩) hHeld ?_
            rotate_left
            · intro w' hSw
              (try dsimp only at hSw)
              go_simp
              try with_reducible rfl
            try simp only [Act.put, List.setIfInBounds_toArray, List.set_cons_zero, List.set_cons_succ, List.getElem_toArray, List.getElem_cons_zero, List.getElem_cons_succ]
            refine wpAnyH_take (i := 22) (oi := _) (v := undef) rfl (by kernel_rfl) (by kernel_rfl) (by kernel_rfl) (fun _ _ _ h => h) (Or.inr ⟨by rfl, rfl⟩) hHeld ?_
            try simp only [Act.put, List.setIfInBounds_toArray, List.set_cons_zero, List.set_cons_succ, List.getElem_toArray, List.getElem_cons_zero, List.getElem_cons_succ]
            refine wpAnyH_take (i := 23) (oi := _) (v := undef) rfl (by kernel_rfl) (by kernel_rfl) (by kernel_rfl) (fun _ _ _ h => h) (Or.inr ⟨by rfl, rfl⟩) hHeld ?_
            try simp only [Act.put, List.setIfInBounds_toArray, List.set_cons_zero, List.set_cons_succ, List.getElem_toArray, List.getElem_cons_zero, List.getElem_cons_succ]
            refine wpAnyH_take (i := 24) (oi := _) (v := undef) rfl (by kernel_rfl) (by kernel_rfl) (by kernel_rfl) (fun _ _ _ h => h) (Or.inr ⟨by rfl, rfl⟩) hHeld ?_
            try simp only [Act.put, List.setIfInBounds_toArray, List.set_cons_zero, List.set_cons_succ, List.getElem_toArray, List.getElem_cons_zero, List.getElem_cons_succ]
            refine wpAnyH_take (i := 25) (oi := _) (v := ?_) rfl (by kernel_rfl) (by kernel_rfl) (by kernel_rfl) (fun _ _ _ h => h) (Or.inl ⟨by rfl, ?_⟩) hHeld ?_
            rotate_left
            · intro w' hSw
              (try dsimp only at hSw)
              go_simp
              try with_reducible rfl
            try simp only [Act.put, List.setIfInBounds_toArray, List.set_cons_zero, List.set_cons_succ, List.getElem_toArray, List.getElem_cons_zero, List.getElem_cons_succ]
            refine wpAnyH_done (by kernel_rfl) ?_ _
            have S7 := SX.keep (K6)
            clear SX HSW HCH HKL c0 x0' x1' x2' x3' HORD d0 d1 d2 d3
            go_wp2_with fail
            refine (s_rfail S7.p5).mono ?_
            rintro e w8 ⟨rfl, S7b⟩
            have S8 := S7b.b5
            clear S7 S7b
            have HSTP : Hid (wsR x0 (ws.length + 1) = (ws ++ [⟨t1, t2, t3, t4⟩], fl)) := hide (by rw [HSB.out]; first | rfl | simp)
            obtain ⟨yy, hyy⟩ : ∃ z : RS, z = fl := ⟨_, rfl⟩
            rw [← hyy] at S8 HSTP
            clear hyy HSB
            have k0 := S8.cell 0 _ rfl
            have k2 := (S8.box #[.int .i64 t1, .string (S t2), .bool t3, .bool t4] 161 rfl).p1.cell 0 _ rfl
            have HQ8 := HX.out _ _ S8 (by simp)
            obtain ⟨z0, z1, z2, z3⟩ := HQ8
            go_upto_region 8 with fail
            refine wp_region_held_drew (S := fun w' => w'.cell? ⟨xb, 0, none⟩ = some (.int .i64 t1) ∧ w'.cell? ⟨xb, 1, none⟩ = some (.string (S t2)) ∧ w'.cell? ⟨xb, 2, none⟩ = some (.bool t3) ∧ w'.cell? ⟨xb, 3, none⟩ = some (.bool t4)) (by kernel_rfl) ?_ (fun hHeld => ?_)
            · exact HX.out _ _ S8.drew (by simp)
            refine wpAnyH_take (i := 0) (oi := _) (v := ?_) rfl (by kernel_rfl) (by kernel_rfl) (by kernel_rfl) (fun _ _ _ h => h) (Or.inl ⟨by rfl, ?_⟩) hHeld ?_
            rotate_left
            · intro w' hSw
              (try dsimp only at hSw)
              go_simp
              try with_reducible rfl
            try simp only [Act.put, List.setIfInBounds_toArray, List.set_cons_zero, List.set_cons_succ, List.getElem_toArray, List.getElem_cons_zero, List.getElem_cons_succ]
            refine wpAnyH_take (i := 1) (oi := _) (v := ?_) rfl (by kernel_rfl) (by kernel_rfl) (by kernel_rfl) (fun _ _ _ h => h) (Or.inl ⟨by rfl, ?_⟩) hHeld ?_
            rotate_left
            · intro w' hSw
              (try dsimp only at hSw)
              go_simp
              try with_reducible rfl
            try simp only [Act.put, List.setIfInBounds_toArray, List.set_cons_zero, List.set_cons_succ, List.getElem_toArray, List.getElem_cons_zero, List.getElem_cons_succ]
            refine wpAnyH_take (i := 2) (oi := _) (v := ?_) rfl (by kernel_rfl) (by kernel_rfl) (by kernel_rfl) (fun _ _ _ h => h) (Or.inl ⟨by rfl, ?_⟩) hHeld ?_
            rotate_left
            · intro w' hSw
              (try dsimp only at hSw)
              go_simp
              try with_reducible rfl
            try simp only [Act.put, List.setIfInBounds_toArray, List.set_cons_zero, List.set_cons_succ, List.getElem_toArray, List.getElem_cons_zero, List.getElem_cons_succ]
            refine wpAnyH_take (i := 3) (oi := _) (v := ?_) rfl (by kernel_rfl) (by kernel_rfl) (by kernel_rfl) (fun _ _ _ h => h) (Or.inl ⟨by rfl, ?_⟩) hHeld ?_
            rotate_left
            · intro w' hSw
              (try dsimp only at hSw)
              go_simp
              try with_reducible rfl
            try simp only [Act.put, List.setIfInBounds_toArray, List.set_cons_zero, List.set_cons_succ, List.getElem_toArray, List.getElem_cons_zero, List.getElem_cons_succ]
            refine wpAnyH_take (i := 5) (oi := _) (v := ?_) rfl (by kernel_rfl) (by kernel_rfl) (by kernel_rfl) (fun _ _ _ h => h) (Or.inl ⟨by rfl, ?_⟩) hHeld ?_
            rotate_left
            · intro w' hSw
              (try dsimp only at hSw)
              go_simp
              try with_reducible rfl
            try simp only [Act.put, List.setIfInBounds_toArray, List.set_cons_zero, List.set_cons_succ, List.getElem_toArray, List.getElem_cons_zero, List.getElem_cons_succ]
            refine wpAnyH_ready (rs := [4, 6]) (by kernel_rfl) (by simp) ?_
            refine AllReadyH.cons rfl (fun K hK => ?_) ?_
            · go_simp
              refine hK.out _ _ ?_ (fun hHeld => ?_)
              · exact HX.out _ _ S8.drew (by simp)
              clear hK K
              try simp only [Act.put, List.setIfInBounds_toArray, List.set_cons_zero, List.set_cons_succ, List.getElem_toArray, List.getElem_cons_zero, List.getElem_cons_succ]
              refine wpAnyH_ready (rs := [6]) (by kernel_rfl) (by simp) ?_
              refine AllReadyH.cons rfl (fun K hK => ?_) ?_
              · go_simp
                refine hK.out _ _ ?_ (fun hHeld => ?_)
                · exact HX.out _ _ (S8.box #[.int .i64 t1, .string (S t2), .bool t3, .bool t4] 161 rfl).drew (by simp)
                clear hK K
                try simp only [Act.put, List.setIfInBounds_toArray, List.set_cons_zero, List.set_cons_succ, List.getElem_toArray, List.getElem_cons_zero, List.getElem_cons_succ]
                refine wpAnyH_ready (rs := [7]) (by kernel_rfl) (by simp) ?_
                refine AllReadyH.cons rfl (fun K hK => ?_) ?_
                · refine step_app slW rfl (.tmp 61) (.tmp 63) rfl (g := g) (S := ((S8.box #[.int .i64 t1, .string (S t2), .bool t3, .bool t4] 161 rfl).drew).p4) (by go_simp) (c := 1) (Src.block (heap_alloc_new _ _) 4 1 rfl) (by go_simp) (by simp [Value.oneCell']) (by unfold maxLen; omega) (by omega) ?_
                  intro A8 c8 w10 S10
                  have k0 := S10.p2.cell 0 _ rfl
                  have k1 := S10.p2.cells_fz 0
                  have HQ10 := HX.out _ _ S10 (by simp)
                  refine hK.out _ _ ?_ (fun hHeld => ?_)
                  · exact HX.out _ _ S10 (by simp)
                  clear hK K
                  try simp only [Act.put, List.setIfInBounds_toArray, List.set_cons_zero, List.set_cons_succ, List.getElem_toArray, List.getElem_cons_zero, List.getElem_cons_succ]
                  refine wpAnyH_take (i := 8) (oi := _) (v := ?_) rfl (by kernel_rfl) (by kernel_rfl) (by kernel_rfl) (fun _ _ _ h => h) (Or.inl ⟨by rfl, ?_⟩) hHeld ?_
                  rotate_left
                  · intro w' hSw
                    (try dsimp only at hSw)
                    go_simp
                    try with_reducible rfl
                  try simp only [Act.put, List.setIfInBounds_toArray, List.set_cons_zero, List.set_cons_succ, List.getElem_toArray, List.getElem_cons_zero, List.getElem_cons_succ]
                  refine wpAnyH_take (i := 9) (oi := _) (v := ?_) rfl (by kernel_rfl) (by kernel_rfl) (by kernel_rfl) (fun _ _ _ h => h) (Or.inl ⟨by rfl, ?_⟩) hHeld ?_
                  rotate_left
                  · intro w' hSw
                    (try dsimp only at hSw)
                    go_simp
                    try with_reducible rfl
                  try simp only [Act.put, List.setIfInBounds_toArray, List.set_cons_zero, List.set_cons_succ, List.getElem_toArray, List.getElem_cons_zero, List.getElem_cons_succ]
                  refine wpAnyH_ready (rs := [10]) (by kernel_rfl) (by simp) ?_
                  refine AllReadyH.cons rfl (fun K hK => ?_) ?_
                  · go_simp
                    refine hK.out _ _ ?_ (fun hHeld => ?_)
                    · exact HX.out _ _ (S10.p2.setc 0 _) (by simp)
                    clear hK K
                    try simp only [Act.put, List.setIfInBounds_toArray, List.set_cons_zero, List.set_cons_succ, List.getElem_toArray, List.getElem_cons_zero, List.getElem_cons_succ]
                    refine wpAnyH_done (by kernel_rfl) ?_ _
                    have S11 := (S10.p2.setc 0 (.slice A8 (ws.length + 1) c8)).p2.drop.p4.drop.p1.b3
                    have S12 : Sat g (w10.setCell ⟨t, 0, none⟩ (.slice A8 (ws.length + 1) c8)) (cellsA t 154 #[.slice A8 (ws ++ [(⟨t1, t2, t3, t4⟩ : WatT)]).length c8, ev, .map (some m)] :: rowA 116 5 ev 0 [] :: mapA kW kW m [] :: rowA 161 4 (.slice A8 (ws ++ [(⟨t1, t2, t3, t4⟩ : WatT)]).length c8) (ws ++ [(⟨t1, t2, t3, t4⟩ : WatT)]).length ((ws ++ [(⟨t1, t2, t3, t4⟩ : WatT)]).flatMap watC) :: rdA r yy :: L) := by
                      rw [List.length_append, List.length_singleton, List.flatMap_append, List.flatMap_singleton]
                      exact S11
                    have HS12 := hide (((S12.notesShut (es := [])).bookShut (B := ⟨ws ++ [⟨t1, t2, t3, t4⟩], [], []⟩)).p1)
                    clear S8 S10 S11 S12
                    go_wp2_with fail
                    go_roundw
                    case rel => exact ⟨ws.length + 1, by omega, (by first | rfl | go_num), by rw [HSTP.out]; exact HS12.out⟩
                    case measure => simp [RowKit.intOf] <;> omega
                  exact AllReadyH.nil
                exact AllReadyH.nil
              exact AllReadyH.nil
            refine AllReadyH.cons rfl (fun K hK => ?_) ?_
            · go_simp
              refine hK.out _ _ ?_ (fun hHeld => ?_)
              · exact HX.out _ _ (S8.box #[.int .i64 t1, .string (S t2), .bool t3, .bool t4] 161 rfl).drew (by simp)
              clear hK K
              try simp only [Act.put, List.setIfInBounds_toArray, List.set_cons_zero, List.set_cons_succ, List.getElem_toArray, List.getElem_cons_zero, List.getElem_cons_succ]
              refine wpAnyH_ready (rs := [4]) (by kernel_rfl) (by simp) ?_
              refine AllReadyH.cons rfl (fun K hK => ?_) ?_
              · go_simp
                refine hK.out _ _ ?_ (fun hHeld => ?_)
                · exact HX.out _ _ (S8.box #[.int .i64 t1, .string (S t2), .bool t3, .bool t4] 161 rfl).drew (by simp)
                clear hK K
                try simp only [Act.put, List.setIfInBounds_toArray, List.set_cons_zero, List.set_cons_succ, List.getElem_toArray, List.getElem_cons_zero, List.getElem_cons_succ]
                refine wpAnyH_ready (rs := [7]) (by kernel_rfl) (by simp) ?_
                refine AllReadyH.cons rfl (fun K hK => ?_) ?_
                · refine step_app slW rfl (.tmp 61) (.tmp 63) rfl (g := g) (S := ((S8.box #[.int .i64 t1, .string (S t2), .bool t3, .bool t4] 161 rfl).drew).p4) (by go_simp) (c := 1) (Src.block (heap_alloc_new _ _) 4 1 rfl) (by go_simp) (by simp [Value.oneCell']) (by unfold maxLen; omega) (by omega) ?_
                  intro A8 c8 w10 S10
                  have k0 := S10.p2.cell 0 _ rfl
                  have k1 := S10.p2.cells_fz 0
                  have HQ10 := HX.out _ _ S10 (by simp)
                  refine hK.out _ _ ?_ (fun hHeld => ?_)
                  · exact HX.out _ _ S10 (by simp)
                  clear hK K
                  try simp only [Act.put, List.setIfInBounds_toArray, List.set_cons_zero, List.set_cons_succ, List.getElem_toArray, List.getElem_cons_zero, List.getElem_cons_succ]
                  refine wpAnyH_take (i := 8) (oi := _) (v := ?_) rfl (by kernel_rfl) (by kernel_rfl) (by kernel_rfl) (fun _ _ _ h => h) (Or.inl ⟨by rfl, ?_⟩) hHeld ?_
                  rotate_left
                  · intro w' hSw
                    (try dsimp only at hSw)
                    go_simp
                    try with_reducible rfl
                  try simp only [Act.put, List.setIfInBounds_toArray, List.set_cons_zero, List.set_cons_succ, List.getElem_toArray, List.getElem_cons_zero, List.getElem_cons_succ]
                  refine wpAnyH_take (i := 9) (oi := _) (v := ?_) rfl (by kernel_rfl) (by kernel_rfl) (by kernel_rfl) (fun _ _ _ h => h) (Or.inl ⟨by rfl, ?_⟩) hHeld ?_
                  rotate_left
                  · intro w' hSw
                    (try dsimp only at hSw)
                    go_simp
                    try with_reducible rfl
                  try simp only [Act.put, List.setIfInBounds_toArray, List.set_cons_zero, List.set_cons_succ, List.getElem_toArray, List.getElem_cons_zero, List.getElem_cons_succ]
                  refine wpAnyH_ready (rs := [10]) (by kernel_rfl) (by simp) ?_
                  refine AllReadyH.cons rfl (fun K hK => ?_) ?_
                  · go_simp
                    refine hK.out _ _ ?_ (fun hHeld => ?_)
                    · exact HX.out _ _ (S10.p2.setc 0 _) (by simp)
                    clear hK K
                    try simp only [Act.put, List.setIfInBounds_toArray, List.set_cons_zero, List.set_cons_succ, List.getElem_toArray, List.getElem_cons_zero, List.getElem_cons_succ]
                    refine wpAnyH_done (by kernel_rfl) ?_ _
                    have S11 := (S10.p2.setc 0 (.slice A8 (ws.length + 1) c8)).p2.drop.p4.drop.p1.b3
                    have S12 : Sat g (w10.setCell ⟨t, 0, none⟩ (.slice A8 (ws.length + 1) c8)) (cellsA t 154 #[.slice A8 (ws ++ [(⟨t1, t2, t3, t4⟩ : WatT)]).length c8, ev, .map (some m)] :: rowA 116 5 ev 0 [] :: mapA kW kW m [] :: rowA 161 4 (.slice A8 (ws ++ [(⟨t1, t2, t3, t4⟩ : WatT)]).length c8) (ws ++ [(⟨t1, t2, t3, t4⟩ : WatT)]).length ((ws ++ [(⟨t1, t2, t3, t4⟩ : WatT)]).flatMap watC) :: rdA r yy :: L) := by
                      rw [List.length_append, List.length_singleton, List.flatMap_append, List.flatMap_singleton]
                      exact S11
                    have HS12 := hide (((S12.notesShut (es := [])).bookShut (B := ⟨ws ++ [⟨t1, t2, t3, t4⟩], [], []⟩)).p1)
                    clear S8 S10 S11 S12
                    go_wp2_with fail
                    go_roundw
                    case rel => exact ⟨ws.length + 1, by omega, (by first | rfl | go_num), by rw [HSTP.out]; exact HS12.out⟩
                    case measure => simp [RowKit.intOf] <;> omega
                  exact AllReadyH.nil
                exact AllReadyH.nil
              exact AllReadyH.nil
            exact AllReadyH.nil
          exact AllReadyH.nil

        · have hor2 : ¬ (0 ≤ OR) := hor
          have horb : decide (0 ≤ OR) = false := by simpa using hor
          rcases hcc with rfl | rfl
          · by_cases ht : t1 < 1
            · have hbd : BD = true := by rw [HBW.out, HLB.out]; simp [ht]
              subst hbd
              clear HBW HLB
              refine wp_region_held_drew (S := fun w' => w'.cell? ⟨t, 0, none⟩ = some (.slice (some ad) ws.length c) ∧ w'.cell? (ad.add (q * 4)) = some (.int .i64 l1) ∧ w'.cell? ⟨(ad.add (q * 4)).block, (ad.add (q * 4)).off + 1, none⟩ = some (.string (S l2)) ∧ w'.cell? ⟨(ad.add (q * 4)).block, (ad.add (q * 4)).off + 2, none⟩ = some (.bool l3) ∧ w'.cell? ⟨(ad.add (q * 4)).block, (ad.add (q * 4)).off + 3, none⟩ = some (.bool l4) ∧ w'.cell? ⟨xb, 0, none⟩ = some (.int .i64 t1) ∧ w'.cell? ⟨xb, 1, none⟩ = some (.string (S t2)) ∧ w'.cell? ⟨xb, 2, none⟩ = some (.bool t3) ∧ w'.cell? ⟨xb, 3, none⟩ = some (.bool t4)) (by kernel_rfl) ?_ (fun hHeld => ?_)
              · exact HSW.out _ (((Keeps.refl (fun _ => False) w5).drew))
              refine wpAnyH_take (i := 0) (oi := _) (v := ?_) rfl (by kernel_rfl) (by kernel_rfl) (by kernel_rfl) (fun _ _ _ h => h) (Or.inl ⟨by rfl, ?_⟩) hHeld ?_
              rotate_left
              · intro w' hSw
                (try dsimp only at hSw)
                go_simp
                try with_reducible rfl
              try simp only [Act.put, List.setIfInBounds_toArray, List.set_cons_zero, List.set_cons_succ, List.getElem_toArray, List.getElem_cons_zero, List.getElem_cons_succ]
              refine wpAnyH_take (i := 1) (oi := _) (v := ?_) rfl (by kernel_rfl) (by kernel_rfl) (by kernel_rfl) (fun _ _ _ h => h) (Or.inl ⟨by rfl, ?_⟩) hHeld ?_
              rotate_left
              · intro w' hSw
                (try dsimp only at hSw)
                go_simp
                try with_reducible rfl
              try simp only [Act.put, List.setIfInBounds_toArray, List.set_cons_zero, List.set_cons_succ, List.getElem_toArray, List.getElem_cons_zero, List.getElem_cons_succ]
              refine wpAnyH_take (i := 2) (oi := _) (v := ?_) rfl (by kernel_rfl) (by kernel_rfl) (by kernel_rfl) (fun _ _ _ h => h) (Or.inl ⟨by rfl, ?_⟩) hHeld ?_
              rotate_left
              · intro w' hSw
                (try dsimp only at hSw)
                go_simp
                try with_reducible rfl
              try simp only [Act.put, List.setIfInBounds_toArray, List.set_cons_zero, List.set_cons_succ, List.getElem_toArray, List.getElem_cons_zero, List.getElem_cons_succ]
              refine wpAnyH_take (i := 3) (oi := _) (v := ?_) rfl (by kernel_rfl) (by kernel_rfl) (by kernel_rfl) (fun _ _ _ h => h) (Or.inl ⟨by rfl, ?_⟩) hHeld ?_
              rotate_left
              · intro w' hSw
                (try dsimp only at hSw)
                go_simp
                try with_reducible rfl
              try simp only [Act.put, List.setIfInBounds_toArray, List.set_cons_zero, List.set_cons_succ, List.getElem_toArray, List.getElem_cons_zero, List.getElem_cons_succ]
              refine wpAnyH_take (i := 4) (oi := _) (v := ?_) rfl (by kernel_rfl) (by kernel_rfl) (by kernel_rfl) (fun _ _ _ h => h) (Or.inl ⟨by rfl, ?_⟩) hHeld ?_
              rotate_left
              · intro w' hSw
                (try dsimp only at hSw)
                go_simp
                try with_reducible rfl
              try simp only [Act.put, List.setIfInBounds_toArray, List.set_cons_zero, List.set_cons_succ, List.getElem_toArray, List.getElem_cons_zero, List.getElem_cons_succ]
              refine wpAnyH_take (i := 5) (oi := _) (v := ?_) rfl (by kernel_rfl) (by kernel_rfl) (by kernel_rfl) (fun _ _ _ h => h) (Or.inl ⟨by rfl, ?_⟩) hHeld ?_
              rotate_left
              · intro w' hSw
                (try dsimp only at hSw)
                go_simp
                try with_reducible rfl
              try simp only [Act.put, List.setIfInBounds_toArray, List.set_cons_zero, List.set_cons_succ, List.getElem_toArray, List.getElem_cons_zero, List.getElem_cons_succ]
              refine wpAnyH_take (i := 6) (oi := _) (v := ?_) rfl (by kernel_rfl) (by kernel_rfl) (by kernel_rfl) (fun _ _ _ h => h) (Or.inl ⟨by rfl, ?_⟩) hHeld ?_
              rotate_left
              · intro w' hSw
                (try dsimp only at hSw)
                go_simp
                try with_reducible rfl
              try simp only [Act.put, List.setIfInBounds_toArray, List.set_cons_zero, List.set_cons_succ, List.getElem_toArray, List.getElem_cons_zero, List.getElem_cons_succ]
              refine wpAnyH_take (i := 7) (oi := _) (v := ?_) rfl (by kernel_rfl) (by kernel_rfl) (by kernel_rfl) (fun _ _ _ h => h) (Or.inl ⟨by rfl, ?_⟩) hHeld ?_
              rotate_left
              · intro w' hSw
                (try dsimp only at hSw)
                go_simp
                try with_reducible rfl
              try simp only [Act.put, List.setIfInBounds_toArray, List.set_cons_zero, List.set_cons_succ, List.getElem_toArray, List.getElem_cons_zero, List.getElem_cons_succ]
              refine wpAnyH_take (i := 8) (oi := _) (v := ?_) rfl (by kernel_rfl) (by kernel_rfl) (by kernel_rfl) (fun _ _ _ h => h) (Or.inl ⟨by rfl, ?_⟩) hHeld ?_
              rotate_left
              · intro w' hSw
                (try dsimp only at hSw)
                go_simp
                try with_reducible rfl
              try simp only [Act.put, List.setIfInBounds_toArray, List.set_cons_zero, List.set_cons_succ, List.getElem_toArray, List.getElem_cons_zero, List.getElem_cons_succ]
              refine wpAnyH_take (i := 9) (oi := _) (v := ?_) rfl (by kernel_rfl) (by kernel_rfl) (by kernel_rfl) (fun _ _ _ h => h) (Or.inl ⟨by rfl, ?_⟩) hHeld ?_
              rotate_left
              · intro w' hSw
                (try dsimp only at hSw)
                go_simp
                try with_reducible rfl
              try simp only [Act.put, List.setIfInBounds_toArray, List.set_cons_zero, List.set_cons_succ, List.getElem_toArray, List.getElem_cons_zero, List.getElem_cons_succ]
              refine wpAnyH_take (i := 10) (oi := _) (v := ?_) rfl (by kernel_rfl) (by kernel_rfl) (by kernel_rfl) (fun _ _ _ h => h) (Or.inl ⟨by rfl, ?_⟩) hHeld ?_
              rotate_left
              · intro w' hSw
                (try dsimp only at hSw)
                go_simp
                try with_reducible rfl
              try simp only [Act.put, List.setIfInBounds_toArray, List.set_cons_zero, List.set_cons_succ, List.getElem_toArray, List.getElem_cons_zero, List.getElem_cons_succ]
              refine wpAnyH_take (i := 11) (oi := _) (v := ?_) rfl (by kernel_rfl) (by kernel_rfl) (by kernel_rfl) (fun _ _ _ h => h) (Or.inl ⟨by rfl, ?_⟩) hHeld ?_
              rotate_left
              · intro w' hSw
                (try dsimp only at hSw)
                go_simp
                try with_reducible rfl
              try simp only [Act.put, List.setIfInBounds_toArray, List.set_cons_zero, List.set_cons_succ, List.getElem_toArray, List.getElem_cons_zero, List.getElem_cons_succ]
              refine wpAnyH_ready (rs := [12]) (by kernel_rfl) (by simp) ?_
              refine AllReadyH.cons rfl (fun K hK => ?_) ?_
              · go_simp
                go_at_call 101
                refine (HORD.out _).mono ?_
                rintro e w6 ⟨rfl, hk6⟩
                have K6 := (((Keeps.refl (fun _ => False) w5).drew)).trans' hk6
                have HQ6 := HSW.out _ K6
                refine hK.out _ _ ?_ (fun hHeld => ?_)
                · exact HSW.out _ K6
                clear hK K
                try simp only [Act.put, List.setIfInBounds_toArray, List.set_cons_zero, List.set_cons_succ, List.getElem_toArray, List.getElem_cons_zero, List.getElem_cons_succ]
                refine wpAnyH_take (i := 13) (oi := _) (v := ?_) rfl (by kernel_rfl) (by kernel_rfl) (by kernel_rfl) (fun _ _ _ h => h) (Or.inl ⟨by rfl, ?_⟩) hHeld ?_
                rotate_left
                · intro w' hSw
                  (try dsimp only at hSw)
                  go_simp
                  try with_reducible rfl
                try simp only [Act.put, List.setIfInBounds_toArray, List.set_cons_zero, List.set_cons_succ, List.getElem_toArray, List.getElem_cons_zero, List.getElem_cons_succ]
                refine wpAnyH_take (i := 14) (oi := _) (v := ?_) rfl (by kernel_rfl) (by kernel_rfl) (by kernel_rfl) (fun _ _ _ h => h) (Or.inl ⟨by rfl, ?_⟩) hHeld ?_
                rotate_left
                · intro w' hSw
                  (try dsimp only at hSw)
                  go_simp
                  try with_reducible rfl
                try simp only [Act.put, List.setIfInBounds_toArray, List.set_cons_zero, List.set_cons_succ, List.getElem_toArray, List.getElem_cons_zero, List.getElem_cons_succ]
                refine wpAnyH_take (i := 15) (oi := _) (v := ?_) rfl (by kernel_rfl) (by kernel_rfl) (by kernel_rfl) (fun _ _ _ h => h) (Or.inl ⟨by rfl, ?_⟩) hHeld ?_
                rotate_left
                · intro w' hSw
                  (try dsimp only at hSw)
                  go_simp
                  try with_reducible rfl
                try simp only [Act.put, List.setIfInBounds_toArray, List.set_cons_zero, List.set_cons_succ, List.getElem_toArray, List.getElem_cons_zero, List.getElem_cons_succ]
                refine wpAnyH_take (i := 16) (oi := _) (v := ?_) rfl (by kernel_rfl) (by kernel_rfl) (by kernel_rfl) (fun _ _ _ h => h) (Or.inl ⟨by rfl, ?_⟩) hHeld ?_
                rotate_left
                · intro w' hSw
                  (try dsimp only at hSw)
                  go_simp
                  try with_reducible rfl
                try simp only [Act.put, List.setIfInBounds_toArray, List.set_cons_zero, List.set_cons_succ, List.getElem_toArray, List.getElem_cons_zero, List.getElem_cons_succ]
                refine wpAnyH_take (i := 17) (oi := _) (v := ?_) rfl (by kernel_rfl) (by kernel_rfl) (by kernel_rfl) (fun _ _ _ h => h) (Or.inl ⟨by rfl, ?_⟩) hHeld ?_
                rotate_left
                · intro w' hSw
                  (try dsimp only at hSw)
                  go_simp
                  try with_reducible rfl
                try simp only [Act.put, List.setIfInBounds_toArray, List.set_cons_zero, List.set_cons_succ, List.getElem_toArray, List.getElem_cons_zero, List.getElem_cons_succ]
                refine wpAnyH_ready (rs := [18]) (by kernel_rfl) (by simp) ?_
                refine AllReadyH.cons rfl (fun K hK => ?_) ?_
                · go_simp
                  go_at_call 40
                  refine (HCH.out _ (HKL.out _ (K6))).mono ?_
                  rintro e w7 ⟨rfl, hk7⟩
                  have K7 := (K6).trans' hk7
                  have HQ7 := HSW.out _ K7
                  refine hK.out _ _ ?_ (fun hHeld => ?_)
                  · exact HSW.out _ K7
                  clear hK K
                  try simp only [Act.put, List.setIfInBounds_toArray, List.set_cons_zero, List.set_cons_succ, List.getElem_toArray, List.getElem_cons_zero, List.getElem_cons_succ]
                  refine wpAnyH_take (i := 19) (oi := _) (v := ?_) rfl (by kernel_rfl) (by kernel_rfl) (by kernel_rfl) (fun _ _ _ h => h) (Or.inl ⟨by rfl, ?_⟩) hHeld ?_
                  rotate_left
                  · intro w' hSw
                    (try dsimp only at hSw)
                    go_simp
                    try with_reducible rfl
                  try simp only [Act.put, List.setIfInBounds_toArray, List.set_cons_zero, List.set_cons_succ, List.getElem_toArray, List.getElem_cons_zero, List.getElem_cons_succ]
                  refine wpAnyH_take (i := 20) (oi := _) (v := ?_) rfl (by kernel_rfl) (by kernel_rfl) (by kernel_rfl) (fun _ _ _ h => h) (Or.inl ⟨by rfl, ?_⟩) hHeld ?_
                  rotate_left
                  · intro w' hSw
                    (try dsimp only at hSw)
                    go_simp
                    try with_reducible rfl
                  try simp only [Act.put, List.setIfInBounds_toArray, List.set_cons_zero, List.set_cons_succ, List.getElem_toArray, List.getElem_cons_zero, List.getElem_cons_succ]
                  refine wpAnyH_take (i := 21) (oi := _) (v := ?_) rfl (by kernel_rfl) (by kernel_rfl) (by kernel_rfl) (fun _ _ _ h => h) (Or.inl ⟨by rfl, ?_⟩) hHeld ?_
                  rotate_left
                  · intro w' hSw
                    (try dsimp only at hSw)
                    go_simp
                    try with_reducible rfl
                  try simp only [Act.put, List.setIfInBounds_toArray, List.set_cons_zero, List.set_cons_succ, List.getElem_toArray, List.getElem_cons_zero, List.getElem_cons_succ]
                  refine wpAnyH_take (i := 22) (oi := _) (v := ?_) rfl (by kernel_rfl) (by kernel_rfl) (by kernel_rfl) (fun _ _ _ h => h) (Or.inl ⟨by rfl, ?_⟩) hHeld ?_
                  rotate_left
                  · intro w' hSw
                    (try dsimp only at hSw)
                    go_simp
                    try with_reducible rfl
                  try simp only [Act.put, List.setIfInBounds_toArray, List.set_cons_zero, List.set_cons_succ, List.getElem_toArray, List.getElem_cons_zero, List.getElem_cons_succ]
                  refine wpAnyH_take (i := 23) (oi := _) (v := ?_) rfl (by kernel_rfl) (by kernel_rfl) (by kernel_rfl) (fun _ _ _ h => h) (Or.inl ⟨by rfl, ?_⟩) hHeld ?_
                  rotate_left
                  · intro w' hSw
                    (try dsimp only at hSw)
                    go_simp
                    try with_reducible rfl
                  try simp only [Act.put, List.setIfInBounds_toArray, List.set_cons_zero, List.set_cons_succ, List.getElem_toArray, List.getElem_cons_zero, List.getElem_cons_succ]
                  refine wpAnyH_take (i := 24) (oi := _) (v := ?_) rfl (by kernel_rfl) (by kernel_rfl) (by kernel_rfl) (fun _ _ _ h => h) (Or.inl ⟨by rfl, ?_⟩) hHeld ?_
                  rotate_left
                  · intro w' hSw
                    (try dsimp only at hSw)
                    go_simp
                    try with_reducible rfl
                  try simp only [Act.put, List.setIfInBounds_toArray, List.set_cons_zero, List.set_cons_succ, List.getElem_toArray, List.getElem_cons_zero, List.getElem_cons_succ]
                  refine wpAnyH_take (i := 25) (oi := _) (v := ?_) rfl (by kernel_rfl) (by kernel_rfl) (by kernel_rfl) (fun _ _ _ h => h) (Or.inl ⟨by rfl, ?_⟩) hHeld ?_
                  rotate_left
                  · intro w' hSw
                    (try dsimp only at hSw)
                    go_simp
                    try with_reducible rfl
                  try simp only [Act.put, List.setIfInBounds_toArray, List.set_cons_zero, List.set_cons_succ, List.getElem_toArray, List.getElem_cons_zero, List.getElem_cons_succ]
                  refine wpAnyH_done (by kernel_rfl) ?_ _
                  have S7 := SX.keep (K7)
                  clear SX HSW HCH HKL c0 x0' x1' x2' x3' HORD d0 d1 d2 d3
                  go_wp2_with fail
                  refine (s_rfail S7.p5).mono ?_
                  rintro e w8 ⟨rfl, S7b⟩
                  have S8 := S7b.b5
                  clear S7 S7b
                  have HSTP : Hid (wsR x0 (ws.length + 1) = (ws ++ [⟨t1, t2, t3, t4⟩], fl)) := hide (by rw [HSB.out]; first | rfl | simp)
                  obtain ⟨yy, hyy⟩ : ∃ z : RS, z = fl := ⟨_, rfl⟩
                  rw [← hyy] at S8 HSTP
                  clear hyy HSB
                  have k0 := S8.cell 0 _ rfl
                  have k2 := (S8.box #[.int .i64 t1, .string (S t2), .bool t3, .bool t4] 161 rfl).p1.cell 0 _ rfl
                  have HQ8 := HX.out _ _ S8 (by simp)
                  obtain ⟨z0, z1, z2, z3⟩ := HQ8
                  go_upto_region 8 with fail
                  refine wp_region_held_drew (S := fun w' => w'.cell? ⟨xb, 0, none⟩ = some (.int .i64 t1) ∧ w'.cell? ⟨xb, 1, none⟩ = some (.string (S t2)) ∧ w'.cell? ⟨xb, 2, none⟩ = some (.bool t3) ∧ w'.cell? ⟨xb, 3, none⟩ = some (.bool t4)) (by kernel_rfl) ?_ (fun hHeld => ?_)
                  · exact HX.out _ _ S8.drew (by simp)
                  refine wpAnyH_take (i := 0) (oi := _) (v := ?_) rfl (by kernel_rfl) (by kernel_rfl) (by kernel_rfl) (fun _ _ _ h => h) (Or.inl ⟨by rfl, ?_⟩) hHeld ?_
                  rotate_left
                  · intro w' hSw
                    (try dsimp only at hSw)
                    go_simp
                    try with_reducible rfl
                  try simp only [Act.put, List.setIfInBounds_toArray, List.set_cons_zero, List.set_cons_succ, List.getElem_toArray, List.getElem_cons_zero, List.getElem_cons_succ]
                  refine wpAnyH_take (i := 1) (oi := _) (v := ?_) rfl (by kernel_rfl) (by kernel_rfl) (by kernel_rfl) (fun _ _ _ h => h) (Or.inl ⟨by rfl, ?_⟩) hHeld ?_
                  rotate_left
                  · intro w' hSw
                    (try dsimp only at hSw)
                    go_simp
                    try with_reducible rfl
                  try simp only [Act.put, List.setIfInBounds_toArray, List.set_cons_zero, List.set_cons_succ, List.getElem_toArray, List.getElem_cons_zero, List.getElem_cons_succ]
                  refine wpAnyH_take (i := 2) (oi := _) (v := ?_) rfl (by kernel_rfl) (by kernel_rfl) (by kernel_rfl) (fun _ _ _ h => h) (Or.inl ⟨by rfl, ?_⟩) hHeld ?_
                  rotate_left
                  · intro w' hSw
                    (try dsimp only at hSw)
                    go_simp
                    try with_reducible rfl
                  try simp only [Act.put, List.setIfInBounds_toArray, List.set_cons_zero, List.set_cons_succ, List.getElem_toArray, List.getElem_cons_zero, List.getElem_cons_succ]
                  refine wpAnyH_take (i := 3) (oi := _) (v := ?_) rfl (by kernel_rfl) (by kernel_rfl) (by kernel_rfl) (fun _ _ _ h => h) (Or.inl ⟨by rfl, ?_⟩) hHeld ?_
                  rotate_left
                  · intro w' hSw
                    (try dsimp only at hSw)
                    go_simp
                    try with_reducible rfl
                  try simp only [Act.put, List.setIfInBounds_toArray, List.set_cons_zero, List.set_cons_succ, List.getElem_toArray, List.getElem_cons_zero, List.getElem_cons_succ]
                  refine wpAnyH_take (i := 5) (oi := _) (v := ?_) rfl (by kernel_rfl) (by kernel_rfl) (by kernel_rfl) (fun _ _ _ h => h) (Or.inl ⟨by rfl, ?_⟩) hHeld ?_
                  rotate_left
                  · intro w' hSw
                    (try dsimp only at hSw)
                    go_simp
                    try with_reducible rfl
                  try simp only [Act.put, List.setIfInBounds_toArray, List.set_cons_zero, List.set_cons_succ, List.getElem_toArray, List.getElem_cons_zero, List.getElem_cons_succ]
                  refine wpAnyH_ready (rs := [4, 6]) (by kernel_rfl) (by simp) ?_
                  refine AllReadyH.cons rfl (fun K hK => ?_) ?_
                  · go_simp
                    refine hK.out _ _ ?_ (fun hHeld => ?_)
                    · exact HX.out _ _ S8.drew (by simp)
                    clear hK K
                    try simp only [Act.put, List.setIfInBounds_toArray, List.set_cons_zero, List.set_cons_succ, List.getElem_toArray, List.getElem_cons_zero, List.getElem_cons_succ]
                    refine wpAnyH_ready (rs := [6]) (by kernel_rfl) (by simp) ?_
                    refine AllReadyH.cons rfl (fun K hK => ?_) ?_
                    · go_simp
                      refine hK.out _ _ ?_ (fun hHeld => ?_)
                      · exact HX.out _ _ (S8.box #[.int .i64 t1, .string (S t2), .bool t3, .bool t4] 161 rfl).drew (by simp)
                      clear hK K
                      try simp only [Act.put, List.setIfInBounds_toArray, List.set_cons_zero, List.set_cons_succ, List.getElem_toArray, List.getElem_cons_zero, List.getElem_cons_succ]
                      refine wpAnyH_ready (rs := [7]) (by kernel_rfl) (by simp) ?_
                      refine AllReadyH.cons rfl (fun K hK => ?_) ?_
                      · refine step_app slW rfl (.tmp 61) (.tmp 63) rfl (g := g) (S := ((S8.box #[.int .i64 t1, .string (S t2), .bool t3, .bool t4] 161 rfl).drew).p4) (by go_simp) (c := 1) (Src.block (heap_alloc_new _ _) 4 1 rfl) (by go_simp) (by simp [Value.oneCell']) (by unfold maxLen; omega) (by omega) ?_
                        intro A8 c8 w10 S10
                        have k0 := S10.p2.cell 0 _ rfl
                        have k1 := S10.p2.cells_fz 0
                        have HQ10 := HX.out _ _ S10 (by simp)
                        refine hK.out _ _ ?_ (fun hHeld => ?_)
                        · exact HX.out _ _ S10 (by simp)
                        clear hK K
                        try simp only [Act.put, List.setIfInBounds_toArray, List.set_cons_zero, List.set_cons_succ, List.getElem_toArray, List.getElem_cons_zero, List.getElem_cons_succ]
                        refine wpAnyH_take (i := 8) (oi := _) (v := ?_) rfl (by kernel_rfl) (by kernel_rfl) (by kernel_rfl) (fun _ _ _ h => h) (Or.inl ⟨by rfl, ?_⟩) hHeld ?_
                        rotate_left
                        · intro w' hSw
                          (try dsimp only at hSw)
                          go_simp
                          try with_reducible rfl
                        try simp only [Act.put, List.setIfInBounds_toArray, List.set_cons_zero, List.set_cons_succ, List.getElem_toArray, List.getElem_cons_zero, List.getElem_cons_succ]
                        refine wpAnyH_take (i := 9) (oi := _) (v := ?_) rfl (by kernel_rfl) (by kernel_rfl) (by kernel_rfl) (fun _ _ _ h => h) (Or.inl ⟨by rfl, ?_⟩) hHeld ?_
                        rotate_left
                        · intro w' hSw
                          (try dsimp only at hSw)
                          go_simp
                          try with_reducible rfl
                        try simp only [Act.put, List.setIfInBounds_toArray, List.set_cons_zero, List.set_cons_succ, List.getElem_toArray, List.getElem_cons_zero, List.getElem_cons_succ]
                        refine wpAnyH_ready (rs := [10]) (by kernel_rfl) (by simp) ?_
                        refine AllReadyH.cons rfl (fun K hK => ?_) ?_
                        · go_simp
                          refine hK.out _ _ ?_ (fun hHeld => ?_)
                          · exact HX.out _ _ (S10.p2.setc 0 _) (by simp)
                          clear hK K
                          try simp only [Act.put, List.setIfInBounds_toArray, List.set_cons_zero, List.set_cons_succ, List.getElem_toArray, List.getElem_cons_zero, List.getElem_cons_succ]
                          refine wpAnyH_done (by kernel_rfl) ?_ _
                          have S11 := (S10.p2.setc 0 (.slice A8 (ws.length + 1) c8)).p2.drop.p4.drop.p1.b3
                          have S12 : Sat g (w10.setCell ⟨t, 0, none⟩ (.slice A8 (ws.length + 1) c8)) (cellsA t 154 #[.slice A8 (ws ++ [(⟨t1, t2, t3, t4⟩ : WatT)]).length c8, ev, .map (some m)] :: rowA 116 5 ev 0 [] :: mapA kW kW m [] :: rowA 161 4 (.slice A8 (ws ++ [(⟨t1, t2, t3, t4⟩ : WatT)]).length c8) (ws ++ [(⟨t1, t2, t3, t4⟩ : WatT)]).length ((ws ++ [(⟨t1, t2, t3, t4⟩ : WatT)]).flatMap watC) :: rdA r yy :: L) := by
                            rw [List.length_append, List.length_singleton, List.flatMap_append, List.flatMap_singleton]
                            exact S11
                          have HS12 := hide (((S12.notesShut (es := [])).bookShut (B := ⟨ws ++ [⟨t1, t2, t3, t4⟩], [], []⟩)).p1)
                          clear S8 S10 S11 S12
                          go_wp2_with fail
                          go_roundw
                          case rel => exact ⟨ws.length + 1, by omega, (by first | rfl | go_num), by rw [HSTP.out]; exact HS12.out⟩
                          case measure => simp [RowKit.intOf] <;> omega
                        exact AllReadyH.nil
                      exact AllReadyH.nil
                    exact AllReadyH.nil
                  refine AllReadyH.cons rfl (fun K hK => ?_) ?_
                  · go_simp
                    refine hK.out _ _ ?_ (fun hHeld => ?_)
                    · exact HX.out _ _ (S8.box #[.int .i64 t1, .string (S t2), .bool t3, .bool t4] 161 rfl).drew (by simp)
                    clear hK K
                    try simp only [Act.put, List.setIfInBounds_toArray, List.set_cons_zero, List.set_cons_succ, List.getElem_toArray, List.getElem_cons_zero, List.getElem_cons_succ]
                    refine wpAnyH_ready (rs := [4]) (by kernel_rfl) (by simp) ?_
                    refine AllReadyH.cons rfl (fun K hK => ?_) ?_
                    · go_simp
                      refine hK.out _ _ ?_ (fun hHeld => ?_)
                      · exact HX.out _ _ (S8.box #[.int .i64 t1, .string (S t2), .bool t3, .bool t4] 161 rfl).drew (by simp)
                      clear hK K
                      try simp only [Act.put, List.setIfInBounds_toArray, List.set_cons_zero, List.set_cons_succ, List.getElem_toArray, List.getElem_cons_zero, List.getElem_cons_succ]
                      refine wpAnyH_ready (rs := [7]) (by kernel_rfl) (by simp) ?_
                      refine AllReadyH.cons rfl (fun K hK => ?_) ?_
                      · refine step_app slW rfl (.tmp 61) (.tmp 63) rfl (g := g) (S := ((S8.box #[.int .i64 t1, .string (S t2), .bool t3, .bool t4] 161 rfl).drew).p4) (by go_simp) (c := 1) (Src.block (heap_alloc_new _ _) 4 1 rfl) (by go_simp) (by simp [Value.oneCell']) (by unfold maxLen; omega) (by omega) ?_
                        intro A8 c8 w10 S10
                        have k0 := S10.p2.cell 0 _ rfl
                        have k1 := S10.p2.cells_fz 0
                        have HQ10 := HX.out _ _ S10 (by simp)
                        refine hK.out _ _ ?_ (fun hHeld => ?_)
                        · exact HX.out _ _ S10 (by simp)
                        clear hK K
                        try simp only [Act.put, List.setIfInBounds_toArray, List.set_cons_zero, List.set_cons_succ, List.getElem_toArray, List.getElem_cons_zero, List.getElem_cons_succ]
                        refine wpAnyH_take (i := 8) (oi := _) (v := ?_) rfl (by kernel_rfl) (by kernel_rfl) (by kernel_rfl) (fun _ _ _ h => h) (Or.inl ⟨by rfl, ?_⟩) hHeld ?_
                        rotate_left
                        · intro w' hSw
                          (try dsimp only at hSw)
                          go_simp
                          try with_reducible rfl
                        try simp only [Act.put, List.setIfInBounds_toArray, List.set_cons_zero, List.set_cons_succ, List.getElem_toArray, List.getElem_cons_zero, List.getElem_cons_succ]
                        refine wpAnyH_take (i := 9) (oi := _) (v := ?_) rfl (by kernel_rfl) (by kernel_rfl) (by kernel_rfl) (fun _ _ _ h => h) (Or.inl ⟨by rfl, ?_⟩) hHeld ?_
                        rotate_left
                        · intro w' hSw
                          (try dsimp only at hSw)
                          go_simp
                          try with_reducible rfl
                        try simp only [Act.put, List.setIfInBounds_toArray, List.set_cons_zero, List.set_cons_succ, List.getElem_toArray, List.getElem_cons_zero, List.getElem_cons_succ]
                        refine wpAnyH_ready (rs := [10]) (by kernel_rfl) (by simp) ?_
                        refine AllReadyH.cons rfl (fun K hK => ?_) ?_
                        · go_simp
                          refine hK.out _ _ ?_ (fun hHeld => ?_)
                          · exact HX.out _ _ (S10.p2.setc 0 _) (by simp)
                          clear hK K
                          try simp only [Act.put, List.setIfInBounds_toArray, List.set_cons_zero, List.set_cons_succ, List.getElem_toArray, List.getElem_cons_zero, List.getElem_cons_succ]
                          refine wpAnyH_done (by kernel_rfl) ?_ _
                          have S11 := (S10.p2.setc 0 (.slice A8 (ws.length + 1) c8)).p2.drop.p4.drop.p1.b3
                          have S12 : Sat g (w10.setCell ⟨t, 0, none⟩ (.slice A8 (ws.length + 1) c8)) (cellsA t 154 #[.slice A8 (ws ++ [(⟨t1, t2, t3, t4⟩ : WatT)]).length c8, ev, .map (some m)] :: rowA 116 5 ev 0 [] :: mapA kW kW m [] :: rowA 161 4 (.slice A8 (ws ++ [(⟨t1, t2, t3, t4⟩ : WatT)]).length c8) (ws ++ [(⟨t1, t2, t3, t4⟩ : WatT)]).length ((ws ++ [(⟨t1, t2, t3, t4⟩ : WatT)]).flatMap watC) :: rdA r yy :: L) := by
                            rw [List.length_append, List.length_singleton, List.flatMap_append, List.flatMap_singleton]
                            exact S11
                          have HS12 := hide (((S12.notesShut (es := [])).bookShut (B := ⟨ws ++ [⟨t1, t2, t3, t4⟩], [], []⟩)).p1)
                          clear S8 S10 S11 S12
                          go_wp2_with fail
                          go_roundw
                          case rel => exact ⟨ws.length + 1, by omega, (by first | rfl | go_num), by rw [HSTP.out]; exact HS12.out⟩
                          case measure => simp [RowKit.intOf] <;> omega
                        exact AllReadyH.nil
                      exact AllReadyH.nil
                    exact AllReadyH.nil
                  exact AllReadyH.nil
                exact AllReadyH.nil
              exact AllReadyH.nil

            · have hbd : BD = false := by rw [HBW.out, HLB.out, horb]; simp [ht]
              subst hbd
              have htb : decide (t1 < 1) = false := by simpa using ht
              clear HBW HLB
              refine wp_region_held_drew (S := fun w' => w'.cell? ⟨t, 0, none⟩ = some (.slice (some ad) ws.length c) ∧ w'.cell? (ad.add (q * 4)) = some (.int .i64 l1) ∧ w'.cell? ⟨(ad.add (q * 4)).block, (ad.add (q * 4)).off + 1, none⟩ = some (.string (S l2)) ∧ w'.cell? ⟨(ad.add (q * 4)).block, (ad.add (q * 4)).off + 2, none⟩ = some (.bool l3) ∧ w'.cell? ⟨(ad.add (q * 4)).block, (ad.add (q * 4)).off + 3, none⟩ = some (.bool l4) ∧ w'.cell? ⟨xb, 0, none⟩ = some (.int .i64 t1) ∧ w'.cell? ⟨xb, 1, none⟩ = some (.string (S t2)) ∧ w'.cell? ⟨xb, 2, none⟩ = some (.bool t3) ∧ w'.cell? ⟨xb, 3, none⟩ = some (.bool t4)) (by kernel_rfl) ?_ (fun hHeld => ?_)
              · exact HSW.out _ (((Keeps.refl (fun _ => False) w5).drew))
              refine wpAnyH_take (i := 0) (oi := _) (v := ?_) rfl (by kernel_rfl) (by kernel_rfl) (by kernel_rfl) (fun _ _ _ h => h) (Or.inl ⟨by rfl, ?_⟩) hHeld ?_
              rotate_left
              · intro w' hSw
                (try dsimp only at hSw)
                go_simp
                try with_reducible rfl
              try simp only [Act.put, List.setIfInBounds_toArray, List.set_cons_zero, List.set_cons_succ, List.getElem_toArray, List.getElem_cons_zero, List.getElem_cons_succ]
              refine wpAnyH_take (i := 1) (oi := _) (v := ?_) rfl (by kernel_rfl) (by kernel_rfl) (by kernel_rfl) (fun _ _ _ h => h) (Or.inl ⟨by rfl, ?_⟩) hHeld ?_
              rotate_left
              · intro w' hSw
                (try dsimp only at hSw)
                go_simp
                try with_reducible rfl
              try simp only [Act.put, List.setIfInBounds_toArray, List.set_cons_zero, List.set_cons_succ, List.getElem_toArray, List.getElem_cons_zero, List.getElem_cons_succ]
              refine wpAnyH_take (i := 2) (oi := _) (v := ?_) rfl (by kernel_rfl) (by kernel_rfl) (by kernel_rfl) (fun _ _ _ h => h) (Or.inl ⟨by rfl, ?_⟩) hHeld ?_
              rotate_left
              · intro w' hSw
                (try dsimp only at hSw)
                go_simp
                try with_reducible rfl
              try simp only [Act.put, List.setIfInBounds_toArray, List.set_cons_zero, List.set_cons_succ, List.getElem_toArray, List.getElem_cons_zero, List.getElem_cons_succ]
              refine wpAnyH_take (i := 3) (oi := _) (v := ?_) rfl (by kernel_rfl) (by kernel_rfl) (by kernel_rfl) (fun _ _ _ h => h) (Or.inl ⟨by rfl, ?_⟩) hHeld ?_
              rotate_left
              · intro w' hSw
                (try dsimp only at hSw)
                go_simp
                try with_reducible rfl
              try simp only [Act.put, List.setIfInBounds_toArray, List.set_cons_zero, List.set_cons_succ, List.getElem_toArray, List.getElem_cons_zero, List.getElem_cons_succ]
              refine wpAnyH_take (i := 4) (oi := _) (v := ?_) rfl (by kernel_rfl) (by kernel_rfl) (by kernel_rfl) (fun _ _ _ h => h) (Or.inl ⟨by rfl, ?_⟩) hHeld ?_
              rotate_left
              · intro w' hSw
                (try dsimp only at hSw)
                go_simp
                try with_reducible rfl
              try simp only [Act.put, List.setIfInBounds_toArray, List.set_cons_zero, List.set_cons_succ, List.getElem_toArray, List.getElem_cons_zero, List.getElem_cons_succ]
              refine wpAnyH_take (i := 5) (oi := _) (v := ?_) rfl (by kernel_rfl) (by kernel_rfl) (by kernel_rfl) (fun _ _ _ h => h) (Or.inl ⟨by rfl, ?_⟩) hHeld ?_
              rotate_left
              · intro w' hSw
                (try dsimp only at hSw)
                go_simp
                try with_reducible rfl
              try simp only [Act.put, List.setIfInBounds_toArray, List.set_cons_zero, List.set_cons_succ, List.getElem_toArray, List.getElem_cons_zero, List.getElem_cons_succ]
              refine wpAnyH_take (i := 6) (oi := _) (v := ?_) rfl (by kernel_rfl) (by kernel_rfl) (by kernel_rfl) (fun _ _ _ h => h) (Or.inl ⟨by rfl, ?_⟩) hHeld ?_
              rotate_left
              · intro w' hSw
                (try dsimp only at hSw)
                go_simp
                try with_reducible rfl
              try simp only [Act.put, List.setIfInBounds_toArray, List.set_cons_zero, List.set_cons_succ, List.getElem_toArray, List.getElem_cons_zero, List.getElem_cons_succ]
              refine wpAnyH_take (i := 7) (oi := _) (v := ?_) rfl (by kernel_rfl) (by kernel_rfl) (by kernel_rfl) (fun _ _ _ h => h) (Or.inl ⟨by rfl, ?_⟩) hHeld ?_
              rotate_left
              · intro w' hSw
                (try dsimp only at hSw)
                go_simp
                try with_reducible rfl
              try simp only [Act.put, List.setIfInBounds_toArray, List.set_cons_zero, List.set_cons_succ, List.getElem_toArray, List.getElem_cons_zero, List.getElem_cons_succ]
              refine wpAnyH_take (i := 8) (oi := _) (v := ?_) rfl (by kernel_rfl) (by kernel_rfl) (by kernel_rfl) (fun _ _ _ h => h) (Or.inl ⟨by rfl, ?_⟩) hHeld ?_
              rotate_left
              · intro w' hSw
                (try dsimp only at hSw)
                go_simp
                try with_reducible rfl
              try simp only [Act.put, List.setIfInBounds_toArray, List.set_cons_zero, List.set_cons_succ, List.getElem_toArray, List.getElem_cons_zero, List.getElem_cons_succ]
              refine wpAnyH_take (i := 9) (oi := _) (v := ?_) rfl (by kernel_rfl) (by kernel_rfl) (by kernel_rfl) (fun _ _ _ h => h) (Or.inl ⟨by rfl, ?_⟩) hHeld ?_
              rotate_left
              · intro w' hSw
                (try dsimp only at hSw)
                go_simp
                try with_reducible rfl
              try simp only [Act.put, List.setIfInBounds_toArray, List.set_cons_zero, List.set_cons_succ, List.getElem_toArray, List.getElem_cons_zero, List.getElem_cons_succ]
              refine wpAnyH_take (i := 10) (oi := _) (v := ?_) rfl (by kernel_rfl) (by kernel_rfl) (by kernel_rfl) (fun _ _ _ h => h) (Or.inl ⟨by rfl, ?_⟩) hHeld ?_
              rotate_left
              · intro w' hSw
                (try dsimp only at hSw)
                go_simp
                try with_reducible rfl
              try simp only [Act.put, List.setIfInBounds_toArray, List.set_cons_zero, List.set_cons_succ, List.getElem_toArray, List.getElem_cons_zero, List.getElem_cons_succ]
              refine wpAnyH_take (i := 11) (oi := _) (v := ?_) rfl (by kernel_rfl) (by kernel_rfl) (by kernel_rfl) (fun _ _ _ h => h) (Or.inl ⟨by rfl, ?_⟩) hHeld ?_
              rotate_left
              · intro w' hSw
                (try dsimp only at hSw)
                go_simp
                try with_reducible rfl
              try simp only [Act.put, List.setIfInBounds_toArray, List.set_cons_zero, List.set_cons_succ, List.getElem_toArray, List.getElem_cons_zero, List.getElem_cons_succ]
              refine wpAnyH_ready (rs := [12]) (by kernel_rfl) (by simp) ?_
              refine AllReadyH.cons rfl (fun K hK => ?_) ?_
              · go_simp
                go_at_call 101
                refine (HORD.out _).mono ?_
                rintro e w6 ⟨rfl, hk6⟩
                have K6 := (((Keeps.refl (fun _ => False) w5).drew)).trans' hk6
                have HQ6 := HSW.out _ K6
                refine hK.out _ _ ?_ (fun hHeld => ?_)
                · exact HSW.out _ K6
                clear hK K
                try simp only [Act.put, List.setIfInBounds_toArray, List.set_cons_zero, List.set_cons_succ, List.getElem_toArray, List.getElem_cons_zero, List.getElem_cons_succ]
                refine wpAnyH_take (i := 13) (oi := _) (v := ?_) rfl (by kernel_rfl) (by kernel_rfl) (by kernel_rfl) (fun _ _ _ h => h) (Or.inl ⟨by rfl, ?_⟩) hHeld ?_
                rotate_left
                · intro w' hSw
                  (try dsimp only at hSw)
                  go_simp
                  try with_reducible rfl
                try simp only [Act.put, List.setIfInBounds_toArray, List.set_cons_zero, List.set_cons_succ, List.getElem_toArray, List.getElem_cons_zero, List.getElem_cons_succ]
                refine wpAnyH_take (i := 14) (oi := _) (v := ?_) rfl (by kernel_rfl) (by kernel_rfl) (by kernel_rfl) (fun _ _ _ h => h) (Or.inl ⟨by rfl, ?_⟩) hHeld ?_
                rotate_left
                · intro w' hSw
                  (try dsimp only at hSw)
                  go_simp
                  try with_reducible rfl
                try simp only [Act.put, List.setIfInBounds_toArray, List.set_cons_zero, List.set_cons_succ, List.getElem_toArray, List.getElem_cons_zero, List.getElem_cons_succ]
                refine wpAnyH_take (i := 15) (oi := _) (v := ?_) rfl (by kernel_rfl) (by kernel_rfl) (by kernel_rfl) (fun _ _ _ h => h) (Or.inl ⟨by rfl, ?_⟩) hHeld ?_
                rotate_left
                · intro w' hSw
                  (try dsimp only at hSw)
                  go_simp
                  try with_reducible rfl
                try simp only [Act.put, List.setIfInBounds_toArray, List.set_cons_zero, List.set_cons_succ, List.getElem_toArray, List.getElem_cons_zero, List.getElem_cons_succ]
                refine wpAnyH_take (i := 16) (oi := _) (v := ?_) rfl (by kernel_rfl) (by kernel_rfl) (by kernel_rfl) (fun _ _ _ h => h) (Or.inl ⟨by rfl, ?_⟩) hHeld ?_
                rotate_left
                · intro w' hSw
                  (try dsimp only at hSw)
                  go_simp
                  try with_reducible rfl
                try simp only [Act.put, List.setIfInBounds_toArray, List.set_cons_zero, List.set_cons_succ, List.getElem_toArray, List.getElem_cons_zero, List.getElem_cons_succ]
                refine wpAnyH_take (i := 17) (oi := _) (v := ?_) rfl (by kernel_rfl) (by kernel_rfl) (by kernel_rfl) (fun _ _ _ h => h) (Or.inl ⟨by rfl, ?_⟩) hHeld ?_
                rotate_left
                · intro w' hSw
                  (try dsimp only at hSw)
                  go_simp
                  try with_reducible rfl
                try simp only [Act.put, List.setIfInBounds_toArray, List.set_cons_zero, List.set_cons_succ, List.getElem_toArray, List.getElem_cons_zero, List.getElem_cons_succ]
                refine wpAnyH_ready (rs := [18]) (by kernel_rfl) (by simp) ?_
                refine AllReadyH.cons rfl (fun K hK => ?_) ?_
                · go_simp
                  go_at_call 40
                  refine (HCH.out _ (HKL.out _ (K6))).mono ?_
                  rintro e w7 ⟨rfl, hk7⟩
                  have K7 := (K6).trans' hk7
                  have HQ7 := HSW.out _ K7
                  refine hK.out _ _ ?_ (fun hHeld => ?_)
                  · exact HSW.out _ K7
                  clear hK K
                  try simp only [Act.put, List.setIfInBounds_toArray, List.set_cons_zero, List.set_cons_succ, List.getElem_toArray, List.getElem_cons_zero, List.getElem_cons_succ]
                  refine wpAnyH_take (i := 19) (oi := _) (v := ?_) rfl (by kernel_rfl) (by kernel_rfl) (by kernel_rfl) (fun _ _ _ h => h) (Or.inl ⟨by rfl, ?_⟩) hHeld ?_
                  rotate_left
                  · intro w' hSw
                    (try dsimp only at hSw)
                    go_simp
                    try with_reducible rfl
                  try simp only [Act.put, List.setIfInBounds_toArray, List.set_cons_zero, List.set_cons_succ, List.getElem_toArray, List.getElem_cons_zero, List.getElem_cons_succ]
                  refine wpAnyH_take (i := 20) (oi := _) (v := ?_) rfl (by kernel_rfl) (by kernel_rfl) (by kernel_rfl) (fun _ _ _ h => h) (Or.inl ⟨by rfl, ?_⟩) hHeld ?_
                  rotate_left
                  · intro w' hSw
                    (try dsimp only at hSw)
                    go_simp
                    try with_reducible rfl
                  try simp only [Act.put, List.setIfInBounds_toArray, List.set_cons_zero, List.set_cons_succ, List.getElem_toArray, List.getElem_cons_zero, List.getElem_cons_succ]
                  refine wpAnyH_take (i := 21) (oi := _) (v := ?_) rfl (by kernel_rfl) (by kernel_rfl) (by kernel_rfl) (fun _ _ _ h => h) (Or.inl ⟨by rfl, ?_⟩) hHeld ?_
                  rotate_left
                  · intro w' hSw
                    (try dsimp only at hSw)
                    go_simp
                    try with_reducible rfl
                  try simp only [Act.put, List.setIfInBounds_toArray, List.set_cons_zero, List.set_cons_succ, List.getElem_toArray, List.getElem_cons_zero, List.getElem_cons_succ]
                  refine wpAnyH_take (i := 22) (oi := _) (v := ?_) rfl (by kernel_rfl) (by kernel_rfl) (by kernel_rfl) (fun _ _ _ h => h) (Or.inl ⟨by rfl, ?_⟩) hHeld ?_
                  rotate_left
                  · intro w' hSw
                    (try dsimp only at hSw)
                    go_simp
                    try with_reducible rfl
                  try simp only [Act.put, List.setIfInBounds_toArray, List.set_cons_zero, List.set_cons_succ, List.getElem_toArray, List.getElem_cons_zero, List.getElem_cons_succ]
                  refine wpAnyH_take (i := 23) (oi := _) (v := ?_) rfl (by kernel_rfl) (by kernel_rfl) (by kernel_rfl) (fun _ _ _ h => h) (Or.inl ⟨by rfl, ?_⟩) hHeld ?_
                  rotate_left
                  · intro w' hSw
                    (try dsimp only at hSw)
                    go_simp
                    try with_reducible rfl
                  try simp only [Act.put, List.setIfInBounds_toArray, List.set_cons_zero, List.set_cons_succ, List.getElem_toArray, List.getElem_cons_zero, List.getElem_cons_succ]
                  refine wpAnyH_take (i := 24) (oi := _) (v := ?_) rfl (by kernel_rfl) (by kernel_rfl) (by kernel_rfl) (fun _ _ _ h => h) (Or.inl ⟨by rfl, ?_⟩) hHeld ?_
                  rotate_left
                  · intro w' hSw
                    (try dsimp only at hSw)
                    go_simp
                    try with_reducible rfl
                  try simp only [Act.put, List.setIfInBounds_toArray, List.set_cons_zero, List.set_cons_succ, List.getElem_toArray, List.getElem_cons_zero, List.getElem_cons_succ]
                  refine wpAnyH_take (i := 25) (oi := _) (v := ?_) rfl (by kernel_rfl) (by kernel_rfl) (by kernel_rfl) (fun _ _ _ h => h) (Or.inl ⟨by rfl, ?_⟩) hHeld ?_
                  rotate_left
                  · intro w' hSw
                    (try dsimp only at hSw)
                    go_simp
                    try with_reducible rfl
                  try simp only [Act.put, List.setIfInBounds_toArray, List.set_cons_zero, List.set_cons_succ, List.getElem_toArray, List.getElem_cons_zero, List.getElem_cons_succ]
                  refine wpAnyH_done (by kernel_rfl) ?_ _
                  have S7 := SX.keep (K7)
                  clear SX HSW HCH HKL c0 x0' x1' x2' x3' HORD d0 d1 d2 d3
                  have S8 := S7
                  clear S7
                  have HSTP : Hid (wsR x0 (ws.length + 1) = (ws ++ [⟨t1, t2, t3, t4⟩], y4)) := hide (by rw [HSB.out]; first | rfl | simp)
                  obtain ⟨yy, hyy⟩ : ∃ z : RS, z = y4 := ⟨_, rfl⟩
                  rw [← hyy] at S8 HSTP
                  clear hyy HSB
                  have k0 := S8.cell 0 _ rfl
                  have k2 := (S8.box #[.int .i64 t1, .string (S t2), .bool t3, .bool t4] 161 rfl).p1.cell 0 _ rfl
                  have HQ8 := HX.out _ _ S8 (by simp)
                  obtain ⟨z0, z1, z2, z3⟩ := HQ8
                  go_upto_region 8 with fail
                  refine wp_region_held_drew (S := fun w' => w'.cell? ⟨xb, 0, none⟩ = some (.int .i64 t1) ∧ w'.cell? ⟨xb, 1, none⟩ = some (.string (S t2)) ∧ w'.cell? ⟨xb, 2, none⟩ = some (.bool t3) ∧ w'.cell? ⟨xb, 3, none⟩ = some (.bool t4)) (by kernel_rfl) ?_ (fun hHeld => ?_)
                  · exact HX.out _ _ S8.drew (by simp)
                  refine wpAnyH_take (i := 0) (oi := _) (v := ?_) rfl (by kernel_rfl) (by kernel_rfl) (by kernel_rfl) (fun _ _ _ h => h) (Or.inl ⟨by rfl, ?_⟩) hHeld ?_
                  rotate_left
                  · intro w' hSw
                    (try dsimp only at hSw)
                    go_simp
                    try with_reducible rfl
                  try simp only [Act.put, List.setIfInBounds_toArray, List.set_cons_zero, List.set_cons_succ, List.getElem_toArray, List.getElem_cons_zero, List.getElem_cons_succ]
                  refine wpAnyH_take (i := 1) (oi := _) (v := ?_) rfl (by kernel_rfl) (by kernel_rfl) (by kernel_rfl) (fun _ _ _ h => h) (Or.inl ⟨by rfl, ?_⟩) hHeld ?_
                  rotate_left
                  · intro w' hSw
                    (try dsimp only at hSw)
                    go_simp
                    try with_reducible rfl
                  try simp only [Act.put, List.setIfInBounds_toArray, List.set_cons_zero, List.set_cons_succ, List.getElem_toArray, List.getElem_cons_zero, List.getElem_cons_succ]
                  refine wpAnyH_take (i := 2) (oi := _) (v := ?_) rfl (by kernel_rfl) (by kernel_rfl) (by kernel_rfl) (fun _ _ _ h => h) (Or.inl ⟨by rfl, ?_⟩) hHeld ?_
                  rotate_left
                  · intro w' hSw
                    (try dsimp only at hSw)
                    go_simp
                    try with_reducible rfl
                  try simp only [Act.put, List.setIfInBounds_toArray, List.set_cons_zero, List.set_cons_succ, List.getElem_toArray, List.getElem_cons_zero, List.getElem_cons_succ]
                  refine wpAnyH_take (i := 3) (oi := _) (v := ?_) rfl (by kernel_rfl) (by kernel_rfl) (by kernel_rfl) (fun _ _ _ h => h) (Or.inl ⟨by rfl, ?_⟩) hHeld ?_
                  rotate_left
                  · intro w' hSw
                    (try dsimp only at hSw)
                    go_simp
                    try with_reducible rfl
                  try simp only [Act.put, List.setIfInBounds_toArray, List.set_cons_zero, List.set_cons_succ, List.getElem_toArray, List.getElem_cons_zero, List.getElem_cons_succ]
                  refine wpAnyH_take (i := 5) (oi := _) (v := ?_) rfl (by kernel_rfl) (by kernel_rfl) (by kernel_rfl) (fun _ _ _ h => h) (Or.inl ⟨by rfl, ?_⟩) hHeld ?_
                  rotate_left
                  · intro w' hSw
                    (try dsimp only at hSw)
                    go_simp
                    try with_reducible rfl
                  try simp only [Act.put, List.setIfInBounds_toArray, List.set_cons_zero, List.set_cons_succ, List.getElem_toArray, List.getElem_cons_zero, List.getElem_cons_succ]
                  refine wpAnyH_ready (rs := [4, 6]) (by kernel_rfl) (by simp) ?_
                  refine AllReadyH.cons rfl (fun K hK => ?_) ?_
                  · go_simp
                    refine hK.out _ _ ?_ (fun hHeld => ?_)
                    · exact HX.out _ _ S8.drew (by simp)
                    clear hK K
                    try simp only [Act.put, List.setIfInBounds_toArray, List.set_cons_zero, List.set_cons_succ, List.getElem_toArray, List.getElem_cons_zero, List.getElem_cons_succ]
                    refine wpAnyH_ready (rs := [6]) (by kernel_rfl) (by simp) ?_
                    refine AllReadyH.cons rfl (fun K hK => ?_) ?_
                    · go_simp
                      refine hK.out _ _ ?_ (fun hHeld => ?_)
                      · exact HX.out _ _ (S8.box #[.int .i64 t1, .string (S t2), .bool t3, .bool t4] 161 rfl).drew (by simp)
                      clear hK K
                      try simp only [Act.put, List.setIfInBounds_toArray, List.set_cons_zero, List.set_cons_succ, List.getElem_toArray, List.getElem_cons_zero, List.getElem_cons_succ]
                      refine wpAnyH_ready (rs := [7]) (by kernel_rfl) (by simp) ?_
                      refine AllReadyH.cons rfl (fun K hK => ?_) ?_
                      · refine step_app slW rfl (.tmp 61) (.tmp 63) rfl (g := g) (S := ((S8.box #[.int .i64 t1, .string (S t2), .bool t3, .bool t4] 161 rfl).drew).p4) (by go_simp) (c := 1) (Src.block (heap_alloc_new _ _) 4 1 rfl) (by go_simp) (by simp [Value.oneCell']) (by unfold maxLen; omega) (by omega) ?_
                        intro A8 c8 w10 S10
                        have k0 := S10.p2.cell 0 _ rfl
                        have k1 := S10.p2.cells_fz 0
                        have HQ10 := HX.out _ _ S10 (by simp)
                        refine hK.out _ _ ?_ (fun hHeld => ?_)
                        · exact HX.out _ _ S10 (by simp)
                        clear hK K
                        try simp only [Act.put, List.setIfInBounds_toArray, List.set_cons_zero, List.set_cons_succ, List.getElem_toArray, List.getElem_cons_zero, List.getElem_cons_succ]
                        refine wpAnyH_take (i := 8) (oi := _) (v := ?_) rfl (by kernel_rfl) (by kernel_rfl) (by kernel_rfl) (fun _ _ _ h => h) (Or.inl ⟨by rfl, ?_⟩) hHeld ?_
                        rotate_left
                        · intro w' hSw
                          (try dsimp only at hSw)
                          go_simp
                          try with_reducible rfl
                        try simp only [Act.put, List.setIfInBounds_toArray, List.set_cons_zero, List.set_cons_succ, List.getElem_toArray, List.getElem_cons_zero, List.getElem_cons_succ]
                        refine wpAnyH_take (i := 9) (oi := _) (v := ?_) rfl (by kernel_rfl) (by kernel_rfl) (by kernel_rfl) (fun _ _ _ h => h) (Or.inl ⟨by rfl, ?_⟩) hHeld ?_
                        rotate_left
                        · intro w' hSw
                          (try dsimp only at hSw)
                          go_simp
                          try with_reducible rfl
                        try simp only [Act.put, List.setIfInBounds_toArray, List.set_cons_zero, List.set_cons_succ, List.getElem_toArray, List.getElem_cons_zero, List.getElem_cons_succ]
                        refine wpAnyH_ready (rs := [10]) (by kernel_rfl) (by simp) ?_
                        refine AllReadyH.cons rfl (fun K hK => ?_) ?_
                        · go_simp
                          refine hK.out _ _ ?_ (fun hHeld => ?_)
                          · exact HX.out _ _ (S10.p2.setc 0 _) (by simp)
                          clear hK K
                          try simp only [Act.put, List.setIfInBounds_toArray, List.set_cons_zero, List.set_cons_succ, List.getElem_toArray, List.getElem_cons_zero, List.getElem_cons_succ]
                          refine wpAnyH_done (by kernel_rfl) ?_ _
                          have S11 := (S10.p2.setc 0 (.slice A8 (ws.length + 1) c8)).p2.drop.p4.drop.p1.b3
                          have S12 : Sat g (w10.setCell ⟨t, 0, none⟩ (.slice A8 (ws.length + 1) c8)) (cellsA t 154 #[.slice A8 (ws ++ [(⟨t1, t2, t3, t4⟩ : WatT)]).length c8, ev, .map (some m)] :: rowA 116 5 ev 0 [] :: mapA kW kW m [] :: rowA 161 4 (.slice A8 (ws ++ [(⟨t1, t2, t3, t4⟩ : WatT)]).length c8) (ws ++ [(⟨t1, t2, t3, t4⟩ : WatT)]).length ((ws ++ [(⟨t1, t2, t3, t4⟩ : WatT)]).flatMap watC) :: rdA r yy :: L) := by
                            rw [List.length_append, List.length_singleton, List.flatMap_append, List.flatMap_singleton]
                            exact S11
                          have HS12 := hide (((S12.notesShut (es := [])).bookShut (B := ⟨ws ++ [⟨t1, t2, t3, t4⟩], [], []⟩)).p1)
                          clear S8 S10 S11 S12
                          go_wp2_with fail
                          go_roundw
                          case rel => exact ⟨ws.length + 1, by omega, (by first | rfl | go_num), by rw [HSTP.out]; exact HS12.out⟩
                          case measure => simp [RowKit.intOf] <;> omega
                        exact AllReadyH.nil
                      exact AllReadyH.nil
                    exact AllReadyH.nil
                  refine AllReadyH.cons rfl (fun K hK => ?_) ?_
                  · go_simp
                    refine hK.out _ _ ?_ (fun hHeld => ?_)
                    · exact HX.out _ _ (S8.box #[.int .i64 t1, .string (S t2), .bool t3, .bool t4] 161 rfl).drew (by simp)
                    clear hK K
                    try simp only [Act.put, List.setIfInBounds_toArray, List.set_cons_zero, List.set_cons_succ, List.getElem_toArray, List.getElem_cons_zero, List.getElem_cons_succ]
                    refine wpAnyH_ready (rs := [4]) (by kernel_rfl) (by simp) ?_
                    refine AllReadyH.cons rfl (fun K hK => ?_) ?_
                    · go_simp
                      refine hK.out _ _ ?_ (fun hHeld => ?_)
                      · exact HX.out _ _ (S8.box #[.int .i64 t1, .string (S t2), .bool t3, .bool t4] 161 rfl).drew (by simp)
                      clear hK K
                      try simp only [Act.put, List.setIfInBounds_toArray, List.set_cons_zero, List.set_cons_succ, List.getElem_toArray, List.getElem_cons_zero, List.getElem_cons_succ]
                      refine wpAnyH_ready (rs := [7]) (by kernel_rfl) (by simp) ?_
                      refine AllReadyH.cons rfl (fun K hK => ?_) ?_
                      · refine step_app slW rfl (.tmp 61) (.tmp 63) rfl (g := g) (S := ((S8.box #[.int .i64 t1, .string (S t2), .bool t3, .bool t4] 161 rfl).drew).p4) (by go_simp) (c := 1) (Src.block (heap_alloc_new _ _) 4 1 rfl) (by go_simp) (by simp [Value.oneCell']) (by unfold maxLen; omega) (by omega) ?_
                        intro A8 c8 w10 S10
                        have k0 := S10.p2.cell 0 _ rfl
                        have k1 := S10.p2.cells_fz 0
                        have HQ10 := HX.out _ _ S10 (by simp)
                        refine hK.out _ _ ?_ (fun hHeld => ?_)
                        · exact HX.out _ _ S10 (by simp)
                        clear hK K
                        try simp only [Act.put, List.setIfInBounds_toArray, List.set_cons_zero, List.set_cons_succ, List.getElem_toArray, List.getElem_cons_zero, List.getElem_cons_succ]
                        refine wpAnyH_take (i := 8) (oi := _) (v := ?_) rfl (by kernel_rfl) (by kernel_rfl) (by kernel_rfl) (fun _ _ _ h => h) (Or.inl ⟨by rfl, ?_⟩) hHeld ?_
                        rotate_left
                        · intro w' hSw
                          (try dsimp only at hSw)
                          go_simp
                          try with_reducible rfl
                        try simp only [Act.put, List.setIfInBounds_toArray, List.set_cons_zero, List.set_cons_succ, List.getElem_toArray, List.getElem_cons_zero, List.getElem_cons_succ]
                        refine wpAnyH_take (i := 9) (oi := _) (v := ?_) rfl (by kernel_rfl) (by kernel_rfl) (by kernel_rfl) (fun _ _ _ h => h) (Or.inl ⟨by rfl, ?_⟩) hHeld ?_
                        rotate_left
                        · intro w' hSw
                          (try dsimp only at hSw)
                          go_simp
                          try with_reducible rfl
                        try simp only [Act.put, List.setIfInBounds_toArray, List.set_cons_zero, List.set_cons_succ, List.getElem_toArray, List.getElem_cons_zero, List.getElem_cons_succ]
                        refine wpAnyH_ready (rs := [10]) (by kernel_rfl) (by simp) ?_
                        refine AllReadyH.cons rfl (fun K hK => ?_) ?_
                        · go_simp
                          refine hK.out _ _ ?_ (fun hHeld => ?_)
                          · exact HX.out _ _ (S10.p2.setc 0 _) (by simp)
                          clear hK K
                          try simp only [Act.put, List.setIfInBounds_toArray, List.set_cons_zero, List.set_cons_succ, List.getElem_toArray, List.getElem_cons_zero, List.getElem_cons_succ]
                          refine wpAnyH_done (by kernel_rfl) ?_ _
                          have S11 := (S10.p2.setc 0 (.slice A8 (ws.length + 1) c8)).p2.drop.p4.drop.p1.b3
                          have S12 : Sat g (w10.setCell ⟨t, 0, none⟩ (.slice A8 (ws.length + 1) c8)) (cellsA t 154 #[.slice A8 (ws ++ [(⟨t1, t2, t3, t4⟩ : WatT)]).length c8, ev, .map (some m)] :: rowA 116 5 ev 0 [] :: mapA kW kW m [] :: rowA 161 4 (.slice A8 (ws ++ [(⟨t1, t2, t3, t4⟩ : WatT)]).length c8) (ws ++ [(⟨t1, t2, t3, t4⟩ : WatT)]).length ((ws ++ [(⟨t1, t2, t3, t4⟩ : WatT)]).flatMap watC) :: rdA r yy :: L) := by
                            rw [List.length_append, List.length_singleton, List.flatMap_append, List.flatMap_singleton]
                            exact S11
                          have HS12 := hide (((S12.notesShut (es := [])).bookShut (B := ⟨ws ++ [⟨t1, t2, t3, t4⟩], [], []⟩)).p1)
                          clear S8 S10 S11 S12
                          go_wp2_with fail
                          go_roundw
                          case rel => exact ⟨ws.length + 1, by omega, (by first | rfl | go_num), by rw [HSTP.out]; exact HS12.out⟩
                          case measure => simp [RowKit.intOf] <;> omega
                        exact AllReadyH.nil
                      exact AllReadyH.nil
                    exact AllReadyH.nil
                  exact AllReadyH.nil
                exact AllReadyH.nil
              exact AllReadyH.nil

          · have hbd : BD = true := by rw [HBW.out, HLB.out]; simp
            subst hbd
            clear HBW HLB
            refine wp_region_held_drew (S := fun w' => w'.cell? ⟨t, 0, none⟩ = some (.slice (some ad) ws.length c) ∧ w'.cell? (ad.add (q * 4)) = some (.int .i64 l1) ∧ w'.cell? ⟨(ad.add (q * 4)).block, (ad.add (q * 4)).off + 1, none⟩ = some (.string (S l2)) ∧ w'.cell? ⟨(ad.add (q * 4)).block, (ad.add (q * 4)).off + 2, none⟩ = some (.bool l3) ∧ w'.cell? ⟨(ad.add (q * 4)).block, (ad.add (q * 4)).off + 3, none⟩ = some (.bool l4) ∧ w'.cell? ⟨xb, 0, none⟩ = some (.int .i64 t1) ∧ w'.cell? ⟨xb, 1, none⟩ = some (.string (S t2)) ∧ w'.cell? ⟨xb, 2, none⟩ = some (.bool t3) ∧ w'.cell? ⟨xb, 3, none⟩ = some (.bool t4)) (by kernel_rfl) ?_ (fun hHeld => ?_)
            · exact HSW.out _ (((Keeps.refl (fun _ => False) w5).drew))
            refine wpAnyH_take (i := 0) (oi := _) (v := ?_) rfl (by kernel_rfl) (by kernel_rfl) (by kernel_rfl) (fun _ _ _ h => h) (Or.inl ⟨by rfl, ?_⟩) hHeld ?_
            rotate_left
            · intro w' hSw
              (try dsimp only at hSw)
              go_simp
              try with_reducible rfl
            try simp only [Act.put, List.setIfInBounds_toArray, List.set_cons_zero, List.set_cons_succ, List.getElem_toArray, List.getElem_cons_zero, List.getElem_cons_succ]
            refine wpAnyH_take (i := 1) (oi := _) (v := ?_) rfl (by kernel_rfl) (by kernel_rfl) (by kernel_rfl) (fun _ _ _ h => h) (Or.inl ⟨by rfl, ?_⟩) hHeld ?_
            rotate_left
            · intro w' hSw
              (try dsimp only at hSw)
              go_simp
              try with_reducible rfl
            try simp only [Act.put, List.setIfInBounds_toArray, List.set_cons_zero, List.set_cons_succ, List.getElem_toArray, List.getElem_cons_zero, List.getElem_cons_succ]
            refine wpAnyH_take (i := 2) (oi := _) (v := ?_) rfl (by kernel_rfl) (by kernel_rfl) (by kernel_rfl) (fun _ _ _ h => h) (Or.inl ⟨by rfl, ?_⟩) hHeld ?_
            rotate_left
            · intro w' hSw
              (try dsimp only at hSw)
              go_simp
              try with_reducible rfl
            try simp only [Act.put, List.setIfInBounds_toArray, List.set_cons_zero, List.set_cons_succ, List.getElem_toArray, List.getElem_cons_zero, List.getElem_cons_succ]
            refine wpAnyH_take (i := 3) (oi := _) (v := ?_) rfl (by kernel_rfl) (by kernel_rfl) (by kernel_rfl) (fun _ _ _ h => h) (Or.inl ⟨by rfl, ?_⟩) hHeld ?_
            rotate_left
            · intro w' hSw
              (try dsimp only at hSw)
              go_simp
              try with_reducible rfl
            try simp only [Act.put, List.setIfInBounds_toArray, List.set_cons_zero, List.set_cons_succ, List.getElem_toArray, List.getElem_cons_zero, List.getElem_cons_succ]
            refine wpAnyH_take (i := 4) (oi := _) (v := ?_) rfl (by kernel_rfl) (by kernel_rfl) (by kernel_rfl) (fun _ _ _ h => h) (Or.inl ⟨by rfl, ?_⟩) hHeld ?_
            rotate_left
            · intro w' hSw
              (try dsimp only at hSw)
              go_simp
              try with_reducible rfl
            try simp only [Act.put, List.setIfInBounds_toArray, List.set_cons_zero, List.set_cons_succ, List.getElem_toArray, List.getElem_cons_zero, List.getElem_cons_succ]
            refine wpAnyH_take (i := 5) (oi := _) (v := ?_) rfl (by kernel_rfl) (by kernel_rfl) (by kernel_rfl) (fun _ _ _ h => h) (Or.inl ⟨by rfl, ?_⟩) hHeld ?_
            rotate_left
            · intro w' hSw
              (try dsimp only at hSw)
              go_simp
              try with_reducible rfl
            try simp only [Act.put, List.setIfInBounds_toArray, List.set_cons_zero, List.set_cons_succ, List.getElem_toArray, List.getElem_cons_zero, List.getElem_cons_succ]
            refine wpAnyH_take (i := 6) (oi := _) (v := ?_) rfl (by kernel_rfl) (by kernel_rfl) (by kernel_rfl) (fun _ _ _ h => h) (Or.inl ⟨by rfl, ?_⟩) hHeld ?_
            rotate_left
            · intro w' hSw
              (try dsimp only at hSw)
              go_simp
              try with_reducible rfl
            try simp only [Act.put, List.setIfInBounds_toArray, List.set_cons_zero, List.set_cons_succ, List.getElem_toArray, List.getElem_cons_zero, List.getElem_cons_succ]
            refine wpAnyH_take (i := 7) (oi := _) (v := ?_) rfl (by kernel_rfl) (by kernel_rfl) (by kernel_rfl) (fun _ _ _ h => h) (Or.inl ⟨by rfl, ?_⟩) hHeld ?_
            rotate_left
            · intro w' hSw
              (try dsimp only at hSw)
              go_simp
              try with_reducible rfl
            try simp only [Act.put, List.setIfInBounds_toArray, List.set_cons_zero, List.set_cons_succ, List.getElem_toArray, List.getElem_cons_zero, List.getElem_cons_succ]
            refine wpAnyH_take (i := 8) (oi := _) (v := ?_) rfl (by kernel_rfl) (by kernel_rfl) (by kernel_rfl) (fun _ _ _ h => h) (Or.inl ⟨by rfl, ?_⟩) hHeld ?_
            rotate_left
            · intro w' hSw
              (try dsimp only at hSw)
              go_simp
              try with_reducible rfl
            try simp only [Act.put, List.setIfInBounds_toArray, List.set_cons_zero, List.set_cons_succ, List.getElem_toArray, List.getElem_cons_zero, List.getElem_cons_succ]
            refine wpAnyH_take (i := 9) (oi := _) (v := ?_) rfl (by kernel_rfl) (by kernel_rfl) (by kernel_rfl) (fun _ _ _ h => h) (Or.inl ⟨by rfl, ?_⟩) hHeld ?_
            rotate_left
            · intro w' hSw
              (try dsimp only at hSw)
              go_simp
              try with_reducible rfl
            try simp only [Act.put, List.setIfInBounds_toArray, List.set_cons_zero, List.set_cons_succ, List.getElem_toArray, List.getElem_cons_zero, List.getElem_cons_succ]
            refine wpAnyH_take (i := 10) (oi := _) (v := ?_) rfl (by kernel_rfl) (by kernel_rfl) (by kernel_rfl) (fun _ _ _ h => h) (Or.inl ⟨by rfl, ?_⟩) hHeld ?_
            rotate_left
            · intro w' hSw
              (try dsimp only at hSw)
              go_simp
              try with_reducible rfl
            try simp only [Act.put, List.setIfInBounds_toArray, List.set_cons_zero, List.set_cons_succ, List.getElem_toArray, List.getElem_cons_zero, List.getElem_cons_succ]
            refine wpAnyH_take (i := 11) (oi := _) (v := ?_) rfl (by kernel_rfl) (by kernel_rfl) (by kernel_rfl) (fun _ _ _ h => h) (Or.inl ⟨by rfl, ?_⟩) hHeld ?_
            rotate_left
            · intro w' hSw
              (try dsimp only at hSw)
              go_simp
              try with_reducible rfl
            try simp only [Act.put, List.setIfInBounds_toArray, List.set_cons_zero, List.set_cons_succ, List.getElem_toArray, List.getElem_cons_zero, List.getElem_cons_succ]
            refine wpAnyH_ready (rs := [12]) (by kernel_rfl) (by simp) ?_
            refine AllReadyH.cons rfl (fun K hK => ?_) ?_
            · go_simp
              go_at_call 101
              refine (HORD.out _).mono ?_
              rintro e w6 ⟨rfl, hk6⟩
              have K6 := (((Keeps.refl (fun _ => False) w5).drew)).trans' hk6
              have HQ6 := HSW.out _ K6
              refine hK.out _ _ ?_ (fun hHeld => ?_)
              · exact HSW.out _ K6
              clear hK K
              try simp only [Act.put, List.setIfInBounds_toArray, List.set_cons_zero, List.set_cons_succ, List.getElem_toArray, List.getElem_cons_zero, List.getElem_cons_succ]
              refine wpAnyH_take (i := 13) (oi := _) (v := ?_) rfl (by kernel_rfl) (by kernel_rfl) (by kernel_rfl) (fun _ _ _ h => h) (Or.inl ⟨by rfl, ?_⟩) hHeld ?_
              rotate_left
              · intro w' hSw
                (try dsimp only at hSw)
                go_simp
                try with_reducible rfl
              try simp only [Act.put, List.setIfInBounds_toArray, List.set_cons_zero, List.set_cons_succ, List.getElem_toArray, List.getElem_cons_zero, List.getElem_cons_succ]
              refine wpAnyH_take (i := 14) (oi := _) (v := ?_) rfl (by kernel_rfl) (by kernel_rfl) (by kernel_rfl) (fun _ _ _ h => h) (Or.inl ⟨by rfl, ?_⟩) hHeld ?_
              rotate_left
              · intro w' hSw
                (try dsimp only at hSw)
                go_simp
                try with_reducible rfl
              try simp only [Act.put, List.setIfInBounds_toArray, List.set_cons_zero, List.set_cons_succ, List.getElem_toArray, List.getElem_cons_zero, List.getElem_cons_succ]
              refine wpAnyH_take (i := 15) (oi := _) (v := ?_) rfl (by kernel_rfl) (by kernel_rfl) (by kernel_rfl) (fun _ _ _ h => h) (Or.inl ⟨by rfl, ?_⟩) hHeld ?_
              rotate_left
              · intro w' hSw
                (try dsimp only at hSw)
                go_simp
                try with_reducible rfl
              try simp only [Act.put, List.setIfInBounds_toArray, List.set_cons_zero, List.set_cons_succ, List.getElem_toArray, List.getElem_cons_zero, List.getElem_cons_succ]
              refine wpAnyH_take (i := 16) (oi := _) (v := ?_) rfl (by kernel_rfl) (by kernel_rfl) (by kernel_rfl) (fun _ _ _ h => h) (Or.inl ⟨by rfl, ?_⟩) hHeld ?_
              rotate_left
              · intro w' hSw
                (try dsimp only at hSw)
                go_simp
                try with_reducible rfl
              try simp only [Act.put, List.setIfInBounds_toArray, List.set_cons_zero, List.set_cons_succ, List.getElem_toArray, List.getElem_cons_zero, List.getElem_cons_succ]
              refine wpAnyH_take (i := 17) (oi := _) (v := ?_) rfl (by kernel_rfl) (by kernel_rfl) (by kernel_rfl) (fun _ _ _ h => h) (Or.inl ⟨by rfl, ?_⟩) hHeld ?_
              rotate_left
              · intro w' hSw
                (try dsimp only at hSw)
                go_simp
                try with_reducible rfl
              try simp only [Act.put, List.setIfInBounds_toArray, List.set_cons_zero, List.set_cons_succ, List.getElem_toArray, List.getElem_cons_zero, List.getElem_cons_succ]
              refine wpAnyH_ready (rs := [18]) (by kernel_rfl) (by simp) ?_
              refine AllReadyH.cons rfl (fun K hK => ?_) ?_
              · go_simp
                go_at_call 40
                refine (HCH.out _ (HKL.out _ (K6))).mono ?_
                rintro e w7 ⟨rfl, hk7⟩
                have K7 := (K6).trans' hk7
                have HQ7 := HSW.out _ K7
                refine hK.out _ _ ?_ (fun hHeld => ?_)
                · exact HSW.out _ K7
                clear hK K
                try simp only [Act.put, List.setIfInBounds_toArray, List.set_cons_zero, List.set_cons_succ, List.getElem_toArray, List.getElem_cons_zero, List.getElem_cons_succ]
                refine wpAnyH_take (i := 19) (oi := _) (v := ?_) rfl (by kernel_rfl) (by kernel_rfl) (by kernel_rfl) (fun _ _ _ h => h) (Or.inl ⟨by rfl, ?_⟩) hHeld ?_
                rotate_left
                · intro w' hSw
                  (try dsimp only at hSw)
                  go_simp
                  try with_reducible rfl
                try simp only [Act.put, List.setIfInBounds_toArray, List.set_cons_zero, List.set_cons_succ, List.getElem_toArray, List.getElem_cons_zero, List.getElem_cons_succ]
                refine wpAnyH_take (i := 20) (oi := _) (v := ?_) rfl (by kernel_rfl) (by kernel_rfl) (by kernel_rfl) (fun _ _ _ h => h) (Or.inl ⟨by rfl, ?_⟩) hHeld ?_
                rotate_left
                · intro w' hSw
                  (try dsimp only at hSw)
                  go_simp
                  try with_reducible rfl
                try simp only [Act.put, List.setIfInBounds_toArray, List.set_cons_zero, List.set_cons_succ, List.getElem_toArray, List.getElem_cons_zero, List.getElem_cons_succ]
                refine wpAnyH_take (i := 21) (oi := _) (v := ?_) rfl (by kernel_rfl) (by kernel_rfl) (by kernel_rfl) (fun _ _ _ h => h) (Or.inl ⟨by rfl, ?_⟩) hHeld ?_
                rotate_left
                · intro w' hSw
                  (try dsimp only at hSw)
                  go_simp
                  try with_reducible rfl
                try simp only [Act.put, List.setIfInBounds_toArray, List.set_cons_zero, List.set_cons_succ, List.getElem_toArray, List.getElem_cons_zero, List.getElem_cons_succ]
                refine wpAnyH_take (i := 22) (oi := _) (v := undef) rfl (by kernel_rfl) (by kernel_rfl) (by kernel_rfl) (fun _ _ _ h => h) (Or.inr ⟨by rfl, rfl⟩) hHeld ?_
                try simp only [Act.put, List.setIfInBounds_toArray, List.set_cons_zero, List.set_cons_succ, List.getElem_toArray, List.getElem_cons_zero, List.getElem_cons_succ]
                refine wpAnyH_take (i := 23) (oi := _) (v := undef) rfl (by kernel_rfl) (by kernel_rfl) (by kernel_rfl) (fun _ _ _ h => h) (Or.inr ⟨by rfl, rfl⟩) hHeld ?_
                try simp only [Act.put, List.setIfInBounds_toArray, List.set_cons_zero, List.set_cons_succ, List.getElem_toArray, List.getElem_cons_zero, List.getElem_cons_succ]
                refine wpAnyH_take (i := 24) (oi := _) (v := undef) rfl (by kernel_rfl) (by kernel_rfl) (by kernel_rfl) (fun _ _ _ h => h) (Or.inr ⟨by rfl, rfl⟩) hHeld ?_
                try simp only [Act.put, List.setIfInBounds_toArray, List.set_cons_zero, List.set_cons_succ, List.getElem_toArray, List.getElem_cons_zero, List.getElem_cons_succ]
                refine wpAnyH_take (i := 25) (oi := _) (v := ?_) rfl (by kernel_rfl) (by kernel_rfl) (by kernel_rfl) (fun _ _ _ h => h) (Or.inl ⟨by rfl, ?_⟩) hHeld ?_
                rotate_left
                · intro w' hSw
                  (try dsimp only at hSw)
                  go_simp
                  try with_reducible rfl
                try simp only [Act.put, List.setIfInBounds_toArray, List.set_cons_zero, List.set_cons_succ, List.getElem_toArray, List.getElem_cons_zero, List.getElem_cons_succ]
                refine wpAnyH_done (by kernel_rfl) ?_ _
                have S7 := SX.keep (K7)
                clear SX HSW HCH HKL c0 x0' x1' x2' x3' HORD d0 d1 d2 d3
                go_wp2_with fail
                refine (s_rfail S7.p5).mono ?_
                rintro e w8 ⟨rfl, S7b⟩
                have S8 := S7b.b5
                clear S7 S7b
                have HSTP : Hid (wsR x0 (ws.length + 1) = (ws ++ [⟨t1, t2, t3, t4⟩], fl)) := hide (by rw [HSB.out]; first | rfl | simp)
                obtain ⟨yy, hyy⟩ : ∃ z : RS, z = fl := ⟨_, rfl⟩
                rw [← hyy] at S8 HSTP
                clear hyy HSB
                have k0 := S8.cell 0 _ rfl
                have k2 := (S8.box #[.int .i64 t1, .string (S t2), .bool t3, .bool t4] 161 rfl).p1.cell 0 _ rfl
                have HQ8 := HX.out _ _ S8 (by simp)
                obtain ⟨z0, z1, z2, z3⟩ := HQ8
                go_upto_region 8 with fail
                refine wp_region_held_drew (S := fun w' => w'.cell? ⟨xb, 0, none⟩ = some (.int .i64 t1) ∧ w'.cell? ⟨xb, 1, none⟩ = some (.string (S t2)) ∧ w'.cell? ⟨xb, 2, none⟩ = some (.bool t3) ∧ w'.cell? ⟨xb, 3, none⟩ = some (.bool t4)) (by kernel_rfl) ?_ (fun hHeld => ?_)
                · exact HX.out _ _ S8.drew (by simp)
                refine wpAnyH_take (i := 0) (oi := _) (v := ?_) rfl (by kernel_rfl) (by kernel_rfl) (by kernel_rfl) (fun _ _ _ h => h) (Or.inl ⟨by rfl, ?_⟩) hHeld ?_
                rotate_left
                · intro w' hSw
                  (try dsimp only at hSw)
                  go_simp
                  try with_reducible rfl
                try simp only [Act.put, List.setIfInBounds_toArray, List.set_cons_zero, List.set_cons_succ, List.getElem_toArray, List.getElem_cons_zero, List.getElem_cons_succ]
                refine wpAnyH_take (i := 1) (oi := _) (v := ?_) rfl (by kernel_rfl) (by kernel_rfl) (by kernel_rfl) (fun _ _ _ h => h) (Or.inl ⟨by rfl, ?_⟩) hHeld ?_
                rotate_left
                · intro w' hSw
                  (try dsimp only at hSw)
                  go_simp
                  try with_reducible rfl
                try simp only [Act.put, List.setIfInBounds_toArray, List.set_cons_zero, List.set_cons_succ, List.getElem_toArray, List.getElem_cons_zero, List.getElem_cons_succ]
                refine wpAnyH_take (i := 2) (oi := _) (v := ?_) rfl (by kernel_rfl) (by kernel_rfl) (by kernel_rfl) (fun _ _ _ h => h) (Or.inl ⟨by rfl, ?_⟩) hHeld ?_
                rotate_left
                · intro w' hSw
                  (try dsimp only at hSw)
                  go_simp
                  try with_reducible rfl
                try simp only [Act.put, List.setIfInBounds_toArray, List.set_cons_zero, List.set_cons_succ, List.getElem_toArray, List.getElem_cons_zero, List.getElem_cons_succ]
                refine wpAnyH_take (i := 3) (oi := _) (v := ?_) rfl (by kernel_rfl) (by kernel_rfl) (by kernel_rfl) (fun _ _ _ h => h) (Or.inl ⟨by rfl, ?_⟩) hHeld ?_
                rotate_left
                · intro w' hSw
                  (try dsimp only at hSw)
                  go_simp
                  try with_reducible rfl
                try simp only [Act.put, List.setIfInBounds_toArray, List.set_cons_zero, List.set_cons_succ, List.getElem_toArray, List.getElem_cons_zero, List.getElem_cons_succ]
                refine wpAnyH_take (i := 5) (oi := _) (v := ?_) rfl (by kernel_rfl) (by kernel_rfl) (by kernel_rfl) (fun _ _ _ h => h) (Or.inl ⟨by rfl, ?_⟩) hHeld ?_
                rotate_left
                · intro w' hSw
                  (try dsimp only at hSw)
                  go_simp
                  try with_reducible rfl
                try simp only [Act.put, List.setIfInBounds_toArray, List.set_cons_zero, List.set_cons_succ, List.getElem_toArray, List.getElem_cons_zero, List.getElem_cons_succ]
                refine wpAnyH_ready (rs := [4, 6]) (by kernel_rfl) (by simp) ?_
                refine AllReadyH.cons rfl (fun K hK => ?_) ?_
                · go_simp
                  refine hK.out _ _ ?_ (fun hHeld => ?_)
                  · exact HX.out _ _ S8.drew (by simp)
                  clear hK K
                  try simp only [Act.put, List.setIfInBounds_toArray, List.set_cons_zero, List.set_cons_succ, List.getElem_toArray, List.getElem_cons_zero, List.getElem_cons_succ]
                  refine wpAnyH_ready (rs := [6]) (by kernel_rfl) (by simp) ?_
                  refine AllReadyH.cons rfl (fun K hK => ?_) ?_
                  · go_simp
                    refine hK.out _ _ ?_ (fun hHeld => ?_)
                    · exact HX.out _ _ (S8.box #[.int .i64 t1, .string (S t2), .bool t3, .bool t4] 161 rfl).drew (by simp)
                    clear hK K
                    try simp only [Act.put, List.setIfInBounds_toArray, List.set_cons_zero, List.set_cons_succ, List.getElem_toArray, List.getElem_cons_zero, List.getElem_cons_succ]
                    refine wpAnyH_ready (rs := [7]) (by kernel_rfl) (by simp) ?_
                    refine AllReadyH.cons rfl (fun K hK => ?_) ?_
                    · refine step_app slW rfl (.tmp 61) (.tmp 63) rfl (g := g) (S := ((S8.box #[.int .i64 t1, .string (S t2), .bool t3, .bool t4] 161 rfl).drew).p4) (by go_simp) (c := 1) (Src.block (heap_alloc_new _ _) 4 1 rfl) (by go_simp) (by simp [Value.oneCell']) (by unfold maxLen; omega) (by omega) ?_
                      intro A8 c8 w10 S10
                      have k0 := S10.p2.cell 0 _ rfl
                      have k1 := S10.p2.cells_fz 0
                      have HQ10 := HX.out _ _ S10 (by simp)
                      refine hK.out _ _ ?_ (fun hHeld => ?_)
                      · exact HX.out _ _ S10 (by simp)
                      clear hK K
                      try simp only [Act.put, List.setIfInBounds_toArray, List.set_cons_zero, List.set_cons_succ, List.getElem_toArray, List.getElem_cons_zero, List.getElem_cons_succ]
                      refine wpAnyH_take (i := 8) (oi := _) (v := ?_) rfl (by kernel_rfl) (by kernel_rfl) (by kernel_rfl) (fun _ _ _ h => h) (Or.inl ⟨by rfl, ?_⟩) hHeld ?_
                      rotate_left
                      · intro w' hSw
                        (try dsimp only at hSw)
                        go_simp
                        try with_reducible rfl
                      try simp only [Act.put, List.setIfInBounds_toArray, List.set_cons_zero, List.set_cons_succ, List.getElem_toArray, List.getElem_cons_zero, List.getElem_cons_succ]
                      refine wpAnyH_take (i := 9) (oi := _) (v := ?_) rfl (by kernel_rfl) (by kernel_rfl) (by kernel_rfl) (fun _ _ _ h => h) (Or.inl ⟨by rfl, ?_⟩) hHeld ?_
                      rotate_left
                      · intro w' hSw
                        (try dsimp only at hSw)
                        go_simp
                        try with_reducible rfl
                      try simp only [Act.put, List.setIfInBounds_toArray, List.set_cons_zero, List.set_cons_succ, List.getElem_toArray, List.getElem_cons_zero, List.getElem_cons_succ]
                      refine wpAnyH_ready (rs := [10]) (by kernel_rfl) (by simp) ?_
                      refine AllReadyH.cons rfl (fun K hK => ?_) ?_
                      · go_simp
                        refine hK.out _ _ ?_ (fun hHeld => ?_)
                        · exact HX.out _ _ (S10.p2.setc 0 _) (by simp)
                        clear hK K
                        try simp only [Act.put, List.setIfInBounds_toArray, List.set_cons_zero, List.set_cons_succ, List.getElem_toArray, List.getElem_cons_zero, List.getElem_cons_succ]
                        refine wpAnyH_done (by kernel_rfl) ?_ _
                        have S11 := (S10.p2.setc 0 (.slice A8 (ws.length + 1) c8)).p2.drop.p4.drop.p1.b3
                        have S12 : Sat g (w10.setCell ⟨t, 0, none⟩ (.slice A8 (ws.length + 1) c8)) (cellsA t 154 #[.slice A8 (ws ++ [(⟨t1, t2, t3, t4⟩ : WatT)]).length c8, ev, .map (some m)] :: rowA 116 5 ev 0 [] :: mapA kW kW m [] :: rowA 161 4 (.slice A8 (ws ++ [(⟨t1, t2, t3, t4⟩ : WatT)]).length c8) (ws ++ [(⟨t1, t2, t3, t4⟩ : WatT)]).length ((ws ++ [(⟨t1, t2, t3, t4⟩ : WatT)]).flatMap watC) :: rdA r yy :: L) := by
                          rw [List.length_append, List.length_singleton, List.flatMap_append, List.flatMap_singleton]
                          exact S11
                        have HS12 := hide (((S12.notesShut (es := [])).bookShut (B := ⟨ws ++ [⟨t1, t2, t3, t4⟩], [], []⟩)).p1)
                        clear S8 S10 S11 S12
                        go_wp2_with fail
                        go_roundw
                        case rel => exact ⟨ws.length + 1, by omega, (by first | rfl | go_num), by rw [HSTP.out]; exact HS12.out⟩
                        case measure => simp [RowKit.intOf] <;> omega
                      exact AllReadyH.nil
                    exact AllReadyH.nil
                  exact AllReadyH.nil
                refine AllReadyH.cons rfl (fun K hK => ?_) ?_
                · go_simp
                  refine hK.out _ _ ?_ (fun hHeld => ?_)
                  · exact HX.out _ _ (S8.box #[.int .i64 t1, .string (S t2), .bool t3, .bool t4] 161 rfl).drew (by simp)
                  clear hK K
                  try simp only [Act.put, List.setIfInBounds_toArray, List.set_cons_zero, List.set_cons_succ, List.getElem_toArray, List.getElem_cons_zero, List.getElem_cons_succ]
                  refine wpAnyH_ready (rs := [4]) (by kernel_rfl) (by simp) ?_
                  refine AllReadyH.cons rfl (fun K hK => ?_) ?_
                  · go_simp
                    refine hK.out _ _ ?_ (fun hHeld => ?_)
                    · exact HX.out _ _ (S8.box #[.int .i64 t1, .string (S t2), .bool t3, .bool t4] 161 rfl).drew (by simp)
                    clear hK K
                    try simp only [Act.put, List.setIfInBounds_toArray, List.set_cons_zero, List.set_cons_succ, List.getElem_toArray, List.getElem_cons_zero, List.getElem_cons_succ]
                    refine wpAnyH_ready (rs := [7]) (by kernel_rfl) (by simp) ?_
                    refine AllReadyH.cons rfl (fun K hK => ?_) ?_
                    · refine step_app slW rfl (.tmp 61) (.tmp 63) rfl (g := g) (S := ((S8.box #[.int .i64 t1, .string (S t2), .bool t3, .bool t4] 161 rfl).drew).p4) (by go_simp) (c := 1) (Src.block (heap_alloc_new _ _) 4 1 rfl) (by go_simp) (by simp [Value.oneCell']) (by unfold maxLen; omega) (by omega) ?_
                      intro A8 c8 w10 S10
                      have k0 := S10.p2.cell 0 _ rfl
                      have k1 := S10.p2.cells_fz 0
                      have HQ10 := HX.out _ _ S10 (by simp)
                      refine hK.out _ _ ?_ (fun hHeld => ?_)
                      · exact HX.out _ _ S10 (by simp)
                      clear hK K
                      try simp only [Act.put, List.setIfInBounds_toArray, List.set_cons_zero, List.set_cons_succ, List.getElem_toArray, List.getElem_cons_zero, List.getElem_cons_succ]
                      refine wpAnyH_take (i := 8) (oi := _) (v := ?_) rfl (by kernel_rfl) (by kernel_rfl) (by kernel_rfl) (fun _ _ _ h => h) (Or.inl ⟨by rfl, ?_⟩) hHeld ?_
                      rotate_left
                      · intro w' hSw
                        (try dsimp only at hSw)
                        go_simp
                        try with_reducible rfl
                      try simp only [Act.put, List.setIfInBounds_toArray, List.set_cons_zero, List.set_cons_succ, List.getElem_toArray, List.getElem_cons_zero, List.getElem_cons_succ]
                      refine wpAnyH_take (i := 9) (oi := _) (v := ?_) rfl (by kernel_rfl) (by kernel_rfl) (by kernel_rfl) (fun _ _ _ h => h) (Or.inl ⟨by rfl, ?_⟩) hHeld ?_
                      rotate_left
                      · intro w' hSw
                        (try dsimp only at hSw)
                        go_simp
                        try with_reducible rfl
                      try simp only [Act.put, List.setIfInBounds_toArray, List.set_cons_zero, List.set_cons_succ, List.getElem_toArray, List.getElem_cons_zero, List.getElem_cons_succ]
                      refine wpAnyH_ready (rs := [10]) (by kernel_rfl) (by simp) ?_
                      refine AllReadyH.cons rfl (fun K hK => ?_) ?_
                      · go_simp
                        refine hK.out _ _ ?_ (fun hHeld => ?_)
                        · exact HX.out _ _ (S10.p2.setc 0 _) (by simp)
                        clear hK K
                        try simp only [Act.put, List.setIfInBounds_toArray, List.set_cons_zero, List.set_cons_succ, List.getElem_toArray, List.getElem_cons_zero, List.getElem_cons_succ]
                        refine wpAnyH_done (by kernel_rfl) ?_ _
                        have S11 := (S10.p2.setc 0 (.slice A8 (ws.length + 1) c8)).p2.drop.p4.drop.p1.b3
                        have S12 : Sat g (w10.setCell ⟨t, 0, none⟩ (.slice A8 (ws.length + 1) c8)) (cellsA t 154 #[.slice A8 (ws ++ [(⟨t1, t2, t3, t4⟩ : WatT)]).length c8, ev, .map (some m)] :: rowA 116 5 ev 0 [] :: mapA kW kW m [] :: rowA 161 4 (.slice A8 (ws ++ [(⟨t1, t2, t3, t4⟩ : WatT)]).length c8) (ws ++ [(⟨t1, t2, t3, t4⟩ : WatT)]).length ((ws ++ [(⟨t1, t2, t3, t4⟩ : WatT)]).flatMap watC) :: rdA r yy :: L) := by
                          rw [List.length_append, List.length_singleton, List.flatMap_append, List.flatMap_singleton]
                          exact S11
                        have HS12 := hide (((S12.notesShut (es := [])).bookShut (B := ⟨ws ++ [⟨t1, t2, t3, t4⟩], [], []⟩)).p1)
                        clear S8 S10 S11 S12
                        go_wp2_with fail
                        go_roundw
                        case rel => exact ⟨ws.length + 1, by omega, (by first | rfl | go_num), by rw [HSTP.out]; exact HS12.out⟩
                        case measure => simp [RowKit.intOf] <;> omega
                      exact AllReadyH.nil
                    exact AllReadyH.nil
                  exact AllReadyH.nil
                exact AllReadyH.nil
              exact AllReadyH.nil
            exact AllReadyH.nil

      · obtain rfl : ws = [] := List.length_eq_zero_iff.1 (by omega)
        have HSW : Hid (∀ w', Keeps (fun _ => False) w5 w' → w'.cell? ⟨xb, 0, none⟩ = some (.int .i64 t1) ∧ w'.cell? ⟨xb, 1, none⟩ = some (.string (S t2)) ∧ w'.cell? ⟨xb, 2, none⟩ = some (.bool t3) ∧ w'.cell? ⟨xb, 3, none⟩ = some (.bool t4)) := hide fun w' h => ⟨h.cell x0' (fun h => h), h.cell x1' (fun h => h), h.cell x2' (fun h => h), h.cell x3' (fun h => h)⟩
        have hlb : lastBad [] ⟨t1, t2, t3, t4⟩ = false := rfl
        simp only [List.length_nil, Int.natCast_zero] at *
        rcases hcc with rfl | rfl
        · by_cases ht : t1 < 1
          · have hbd : BD = true := by rw [HBW.out, hlb]; simp [ht]
            subst hbd
            clear HBW hlb
            refine wp_region_held_drew (S := fun w' => w'.cell? ⟨xb, 0, none⟩ = some (.int .i64 t1) ∧ w'.cell? ⟨xb, 1, none⟩ = some (.string (S t2)) ∧ w'.cell? ⟨xb, 2, none⟩ = some (.bool t3) ∧ w'.cell? ⟨xb, 3, none⟩ = some (.bool t4)) (by kernel_rfl) ?_ (fun hHeld => ?_)
            · exact HSW.out _ (((Keeps.refl (fun _ => False) w5).drew))
            refine wpAnyH_take (i := 0) (oi := _) (v := ?_) rfl (by kernel_rfl) (by kernel_rfl) (by kernel_rfl) (fun _ _ _ h => h) (Or.inl ⟨by rfl, ?_⟩) hHeld ?_
            rotate_left
            · intro w' hSw
              (try dsimp only at hSw)
              go_simp
              try with_reducible rfl
            try simp only [Act.put, List.setIfInBounds_toArray, List.set_cons_zero, List.set_cons_succ, List.getElem_toArray, List.getElem_cons_zero, List.getElem_cons_succ]
            refine wpAnyH_take (i := 1) (oi := _) (v := ?_) rfl (by kernel_rfl) (by kernel_rfl) (by kernel_rfl) (fun _ _ _ h => h) (Or.inl ⟨by rfl, ?_⟩) hHeld ?_
            rotate_left
            · intro w' hSw
              (try dsimp only at hSw)
              go_simp
              try with_reducible rfl
            try simp only [Act.put, List.setIfInBounds_toArray, List.set_cons_zero, List.set_cons_succ, List.getElem_toArray, List.getElem_cons_zero, List.getElem_cons_succ]
            refine wpAnyH_take (i := 2) (oi := _) (v := ?_) rfl (by kernel_rfl) (by kernel_rfl) (by kernel_rfl) (fun _ _ _ h => h) (Or.inl ⟨by rfl, ?_⟩) hHeld ?_
            rotate_left
            · intro w' hSw
              (try dsimp only at hSw)
              go_simp
              try with_reducible rfl
            try simp only [Act.put, List.setIfInBounds_toArray, List.set_cons_zero, List.set_cons_succ, List.getElem_toArray, List.getElem_cons_zero, List.getElem_cons_succ]
            refine wpAnyH_take (i := 3) (oi := _) (v := undef) rfl (by kernel_rfl) (by kernel_rfl) (by kernel_rfl) (fun _ _ _ h => h) (Or.inr ⟨by rfl, rfl⟩) hHeld ?_
            try simp only [Act.put, List.setIfInBounds_toArray, List.set_cons_zero, List.set_cons_succ, List.getElem_toArray, List.getElem_cons_zero, List.getElem_cons_succ]
            refine wpAnyH_take (i := 4) (oi := _) (v := undef) rfl (by kernel_rfl) (by kernel_rfl) (by kernel_rfl) (fun _ _ _ h => h) (Or.inr ⟨by rfl, rfl⟩) hHeld ?_
            try simp only [Act.put, List.setIfInBounds_toArray, List.set_cons_zero, List.set_cons_succ, List.getElem_toArray, List.getElem_cons_zero, List.getElem_cons_succ]
            refine wpAnyH_take (i := 5) (oi := _) (v := undef) rfl (by kernel_rfl) (by kernel_rfl) (by kernel_rfl) (fun _ _ _ h => h) (Or.inr ⟨by rfl, rfl⟩) hHeld ?_
            try simp only [Act.put, List.setIfInBounds_toArray, List.set_cons_zero, List.set_cons_succ, List.getElem_toArray, List.getElem_cons_zero, List.getElem_cons_succ]
            refine wpAnyH_take (i := 6) (oi := _) (v := undef) rfl (by kernel_rfl) (by kernel_rfl) (by kernel_rfl) (fun _ _ _ h => h) (Or.inr ⟨by rfl, rfl⟩) hHeld ?_
            try simp only [Act.put, List.setIfInBounds_toArray, List.set_cons_zero, List.set_cons_succ, List.getElem_toArray, List.getElem_cons_zero, List.getElem_cons_succ]
            refine wpAnyH_take (i := 7) (oi := _) (v := undef) rfl (by kernel_rfl) (by kernel_rfl) (by kernel_rfl) (fun _ _ _ h => h) (Or.inr ⟨by rfl, rfl⟩) hHeld ?_
            try simp only [Act.put, List.setIfInBounds_toArray, List.set_cons_zero, List.set_cons_succ, List.getElem_toArray, List.getElem_cons_zero, List.getElem_cons_succ]
            refine wpAnyH_take (i := 8) (oi := _) (v := undef) rfl (by kernel_rfl) (by kernel_rfl) (by kernel_rfl) (fun _ _ _ h => h) (Or.inr ⟨by rfl, rfl⟩) hHeld ?_
            try simp only [Act.put, List.setIfInBounds_toArray, List.set_cons_zero, List.set_cons_succ, List.getElem_toArray, List.getElem_cons_zero, List.getElem_cons_succ]
            refine wpAnyH_take (i := 9) (oi := _) (v := undef) rfl (by kernel_rfl) (by kernel_rfl) (by kernel_rfl) (fun _ _ _ h => h) (Or.inr ⟨by rfl, rfl⟩) hHeld ?_
            try simp only [Act.put, List.setIfInBounds_toArray, List.set_cons_zero, List.set_cons_succ, List.getElem_toArray, List.getElem_cons_zero, List.getElem_cons_succ]
            refine wpAnyH_take (i := 10) (oi := _) (v := undef) rfl (by kernel_rfl) (by kernel_rfl) (by kernel_rfl) (fun _ _ _ h => h) (Or.inr ⟨by rfl, rfl⟩) hHeld ?_
            try simp only [Act.put, List.setIfInBounds_toArray, List.set_cons_zero, List.set_cons_succ, List.getElem_toArray, List.getElem_cons_zero, List.getElem_cons_succ]
            refine wpAnyH_take (i := 11) (oi := _) (v := undef) rfl (by kernel_rfl) (by kernel_rfl) (by kernel_rfl) (fun _ _ _ h => h) (Or.inr ⟨by rfl, rfl⟩) hHeld ?_
            try simp only [Act.put, List.setIfInBounds_toArray, List.set_cons_zero, List.set_cons_succ, List.getElem_toArray, List.getElem_cons_zero, List.getElem_cons_succ]
            refine wpAnyH_take (i := 12) (oi := _) (v := undef) rfl (by kernel_rfl) (by kernel_rfl) (by kernel_rfl) (fun _ _ _ h => h) (Or.inr ⟨by rfl, rfl⟩) hHeld ?_
            try simp only [Act.put, List.setIfInBounds_toArray, List.set_cons_zero, List.set_cons_succ, List.getElem_toArray, List.getElem_cons_zero, List.getElem_cons_succ]
            refine wpAnyH_take (i := 13) (oi := _) (v := undef) rfl (by kernel_rfl) (by kernel_rfl) (by kernel_rfl) (fun _ _ _ h => h) (Or.inr ⟨by rfl, rfl⟩) hHeld ?_
            try simp only [Act.put, List.setIfInBounds_toArray, List.set_cons_zero, List.set_cons_succ, List.getElem_toArray, List.getElem_cons_zero, List.getElem_cons_succ]
            refine wpAnyH_take (i := 14) (oi := _) (v := ?_) rfl (by kernel_rfl) (by kernel_rfl) (by kernel_rfl) (fun _ _ _ h => h) (Or.inl ⟨by rfl, ?_⟩) hHeld ?_
            rotate_left
            · intro w' hSw
              (try dsimp only at hSw)
              go_simp
              try with_reducible rfl
            try simp only [Act.put, List.setIfInBounds_toArray, List.set_cons_zero, List.set_cons_succ, List.getElem_toArray, List.getElem_cons_zero, List.getElem_cons_succ]
            refine wpAnyH_take (i := 15) (oi := _) (v := ?_) rfl (by kernel_rfl) (by kernel_rfl) (by kernel_rfl) (fun _ _ _ h => h) (Or.inl ⟨by rfl, ?_⟩) hHeld ?_
            rotate_left
            · intro w' hSw
              (try dsimp only at hSw)
              go_simp
              try with_reducible rfl
            try simp only [Act.put, List.setIfInBounds_toArray, List.set_cons_zero, List.set_cons_succ, List.getElem_toArray, List.getElem_cons_zero, List.getElem_cons_succ]
            refine wpAnyH_take (i := 16) (oi := _) (v := ?_) rfl (by kernel_rfl) (by kernel_rfl) (by kernel_rfl) (fun _ _ _ h => h) (Or.inl ⟨by rfl, ?_⟩) hHeld ?_
            rotate_left
            · intro w' hSw
              (try dsimp only at hSw)
              go_simp
              try with_reducible rfl
            try simp only [Act.put, List.setIfInBounds_toArray, List.set_cons_zero, List.set_cons_succ, List.getElem_toArray, List.getElem_cons_zero, List.getElem_cons_succ]
            refine wpAnyH_take (i := 17) (oi := _) (v := ?_) rfl (by kernel_rfl) (by kernel_rfl) (by kernel_rfl) (fun _ _ _ h => h) (Or.inl ⟨by rfl, ?_⟩) hHeld ?_
            rotate_left
            · intro w' hSw
              (try dsimp only at hSw)
              go_simp
              try with_reducible rfl
            try simp only [Act.put, List.setIfInBounds_toArray, List.set_cons_zero, List.set_cons_succ, List.getElem_toArray, List.getElem_cons_zero, List.getElem_cons_succ]
            refine wpAnyH_ready (rs := [18]) (by kernel_rfl) (by simp) ?_
            refine AllReadyH.cons rfl (fun K hK => ?_) ?_
            · go_simp
              go_at_call 40
              refine (HCH.out _ (HKL.out _ (((Keeps.refl (fun _ => False) w5).drew)))).mono ?_
              rintro e w7 ⟨rfl, hk7⟩
              have K7 := (((Keeps.refl (fun _ => False) w5).drew)).trans' hk7
              have HQ7 := HSW.out _ K7
              refine hK.out _ _ ?_ (fun hHeld => ?_)
              · exact HSW.out _ K7
              clear hK K
              try simp only [Act.put, List.setIfInBounds_toArray, List.set_cons_zero, List.set_cons_succ, List.getElem_toArray, List.getElem_cons_zero, List.getElem_cons_succ]
              refine wpAnyH_take (i := 19) (oi := _) (v := ?_) rfl (by kernel_rfl) (by kernel_rfl) (by kernel_rfl) (fun _ _ _ h => h) (Or.inl ⟨by rfl, ?_⟩) hHeld ?_
              rotate_left
              · intro w' hSw
                (try dsimp only at hSw)
                go_simp
                try with_reducible rfl
              try simp only [Act.put, List.setIfInBounds_toArray, List.set_cons_zero, List.set_cons_succ, List.getElem_toArray, List.getElem_cons_zero, List.getElem_cons_succ]
              refine wpAnyH_take (i := 20) (oi := _) (v := ?_) rfl (by kernel_rfl) (by kernel_rfl) (by kernel_rfl) (fun _ _ _ h => h) (Or.inl ⟨by rfl, ?_⟩) hHeld ?_
              rotate_left
              · intro w' hSw
                (try dsimp only at hSw)
                go_simp
                try with_reducible rfl
              try simp only [Act.put, List.setIfInBounds_toArray, List.set_cons_zero, List.set_cons_succ, List.getElem_toArray, List.getElem_cons_zero, List.getElem_cons_succ]
              refine wpAnyH_take (i := 21) (oi := _) (v := ?_) rfl (by kernel_rfl) (by kernel_rfl) (by kernel_rfl) (fun _ _ _ h => h) (Or.inl ⟨by rfl, ?_⟩) hHeld ?_
              rotate_left
              · intro w' hSw
                (try dsimp only at hSw)
                go_simp
                try with_reducible rfl
              try simp only [Act.put, List.setIfInBounds_toArray, List.set_cons_zero, List.set_cons_succ, List.getElem_toArray, List.getElem_cons_zero, List.getElem_cons_succ]
              refine wpAnyH_take (i := 22) (oi := _) (v := ?_) rfl (by kernel_rfl) (by kernel_rfl) (by kernel_rfl) (fun _ _ _ h => h) (Or.inl ⟨by rfl, ?_⟩) hHeld ?_
              rotate_left
              · intro w' hSw
                (try dsimp only at hSw)
                go_simp
                try with_reducible rfl
              try simp only [Act.put, List.setIfInBounds_toArray, List.set_cons_zero, List.set_cons_succ, List.getElem_toArray, List.getElem_cons_zero, List.getElem_cons_succ]
              refine wpAnyH_take (i := 23) (oi := _) (v := ?_) rfl (by kernel_rfl) (by kernel_rfl) (by kernel_rfl) (fun _ _ _ h => h) (Or.inl ⟨by rfl, ?_⟩) hHeld ?_
              rotate_left
              · intro w' hSw
                (try dsimp only at hSw)
                go_simp
                try with_reducible rfl
              try simp only [Act.put, List.setIfInBounds_toArray, List.set_cons_zero, List.set_cons_succ, List.getElem_toArray, List.getElem_cons_zero, List.getElem_cons_succ]
              refine wpAnyH_take (i := 24) (oi := _) (v := ?_) rfl (by kernel_rfl) (by kernel_rfl) (by kernel_rfl) (fun _ _ _ h => h) (Or.inl ⟨by rfl, ?_⟩) hHeld ?_
              rotate_left
              · intro w' hSw
                (try dsimp only at hSw)
                go_simp
                try with_reducible rfl
              try simp only [Act.put, List.setIfInBounds_toArray, List.set_cons_zero, List.set_cons_succ, List.getElem_toArray, List.getElem_cons_zero, List.getElem_cons_succ]
              refine wpAnyH_take (i := 25) (oi := _) (v := ?_) rfl (by kernel_rfl) (by kernel_rfl) (by kernel_rfl) (fun _ _ _ h => h) (Or.inl ⟨by rfl, ?_⟩) hHeld ?_
              rotate_left
              · intro w' hSw
                (try dsimp only at hSw)
                go_simp
                try with_reducible rfl
              try simp only [Act.put, List.setIfInBounds_toArray, List.set_cons_zero, List.set_cons_succ, List.getElem_toArray, List.getElem_cons_zero, List.getElem_cons_succ]
              refine wpAnyH_done (by kernel_rfl) ?_ _
              have S7 := SX.keep (K7)
              clear SX HSW HCH HKL c0 x0' x1' x2' x3'
              go_wp2_with fail
              refine (s_rfail S7.p5).mono ?_
              rintro e w8 ⟨rfl, S7b⟩
              have S8 := S7b.b5
              clear S7 S7b
              have HSTP : Hid (wsR x0 (0 + 1) = ([] ++ [⟨t1, t2, t3, t4⟩], fl)) := hide (by rw [HSB.out]; first | rfl | simp)
              obtain ⟨yy, hyy⟩ : ∃ z : RS, z = fl := ⟨_, rfl⟩
              rw [← hyy] at S8 HSTP
              clear hyy HSB
              have k0 := S8.cell 0 _ rfl
              have k2 := (S8.box #[.int .i64 t1, .string (S t2), .bool t3, .bool t4] 161 rfl).p1.cell 0 _ rfl
              have HQ8 := HX.out _ _ S8 (by simp)
              obtain ⟨z0, z1, z2, z3⟩ := HQ8
              go_upto_region 8 with fail
              refine wp_region_held_drew (S := fun w' => w'.cell? ⟨xb, 0, none⟩ = some (.int .i64 t1) ∧ w'.cell? ⟨xb, 1, none⟩ = some (.string (S t2)) ∧ w'.cell? ⟨xb, 2, none⟩ = some (.bool t3) ∧ w'.cell? ⟨xb, 3, none⟩ = some (.bool t4)) (by kernel_rfl) ?_ (fun hHeld => ?_)
              · exact HX.out _ _ S8.drew (by simp)
              refine wpAnyH_take (i := 0) (oi := _) (v := ?_) rfl (by kernel_rfl) (by kernel_rfl) (by kernel_rfl) (fun _ _ _ h => h) (Or.inl ⟨by rfl, ?_⟩) hHeld ?_
              rotate_left
              · intro w' hSw
                (try dsimp only at hSw)
                go_simp
                try with_reducible rfl
              try simp only [Act.put, List.setIfInBounds_toArray, List.set_cons_zero, List.set_cons_succ, List.getElem_toArray, List.getElem_cons_zero, List.getElem_cons_succ]
              refine wpAnyH_take (i := 1) (oi := _) (v := ?_) rfl (by kernel_rfl) (by kernel_rfl) (by kernel_rfl) (fun _ _ _ h => h) (Or.inl ⟨by rfl, ?_⟩) hHeld ?_
              rotate_left
              · intro w' hSw
                (try dsimp only at hSw)
                go_simp
                try with_reducible rfl
              try simp only [Act.put, List.setIfInBounds_toArray, List.set_cons_zero, List.set_cons_succ, List.getElem_toArray, List.getElem_cons_zero, List.getElem_cons_succ]
              refine wpAnyH_take (i := 2) (oi := _) (v := ?_) rfl (by kernel_rfl) (by kernel_rfl) (by kernel_rfl) (fun _ _ _ h => h) (Or.inl ⟨by rfl, ?_⟩) hHeld ?_
              rotate_left
              · intro w' hSw
                (try dsimp only at hSw)
                go_simp
                try with_reducible rfl
              try simp only [Act.put, List.setIfInBounds_toArray, List.set_cons_zero, List.set_cons_succ, List.getElem_toArray, List.getElem_cons_zero, List.getElem_cons_succ]
              refine wpAnyH_take (i := 3) (oi := _) (v := ?_) rfl (by kernel_rfl) (by kernel_rfl) (by kernel_rfl) (fun _ _ _ h => h) (Or.inl ⟨by rfl, ?_⟩) hHeld ?_
              rotate_left
              · intro w' hSw
                (try dsimp only at hSw)
                go_simp
                try with_reducible rfl
              try simp only [Act.put, List.setIfInBounds_toArray, List.set_cons_zero, List.set_cons_succ, List.getElem_toArray, List.getElem_cons_zero, List.getElem_cons_succ]
              refine wpAnyH_take (i := 5) (oi := _) (v := ?_) rfl (by kernel_rfl) (by kernel_rfl) (by kernel_rfl) (fun _ _ _ h => h) (Or.inl ⟨by rfl, ?_⟩) hHeld ?_
              rotate_left
              · intro w' hSw
                (try dsimp only at hSw)
                go_simp
                try with_reducible rfl
              try simp only [Act.put, List.setIfInBounds_toArray, List.set_cons_zero, List.set_cons_succ, List.getElem_toArray, List.getElem_cons_zero, List.getElem_cons_succ]
              refine wpAnyH_ready (rs := [4, 6]) (by kernel_rfl) (by simp) ?_
              refine AllReadyH.cons rfl (fun K hK => ?_) ?_
              · go_simp
                refine hK.out _ _ ?_ (fun hHeld => ?_)
                · exact HX.out _ _ S8.drew (by simp)
                clear hK K
                try simp only [Act.put, List.setIfInBounds_toArray, List.set_cons_zero, List.set_cons_succ, List.getElem_toArray, List.getElem_cons_zero, List.getElem_cons_succ]
                refine wpAnyH_ready (rs := [6]) (by kernel_rfl) (by simp) ?_
                refine AllReadyH.cons rfl (fun K hK => ?_) ?_
                · go_simp
                  refine hK.out _ _ ?_ (fun hHeld => ?_)
                  · exact HX.out _ _ (S8.box #[.int .i64 t1, .string (S t2), .bool t3, .bool t4] 161 rfl).drew (by simp)
                  clear hK K
                  try simp only [Act.put, List.setIfInBounds_toArray, List.set_cons_zero, List.set_cons_succ, List.getElem_toArray, List.getElem_cons_zero, List.getElem_cons_succ]
                  refine wpAnyH_ready (rs := [7]) (by kernel_rfl) (by simp) ?_
                  refine AllReadyH.cons rfl (fun K hK => ?_) ?_
                  · refine step_app slW rfl (.tmp 61) (.tmp 63) rfl (g := g) (S := ((S8.box #[.int .i64 t1, .string (S t2), .bool t3, .bool t4] 161 rfl).drew).p4) (by go_simp) (c := 1) (Src.block (heap_alloc_new _ _) 4 1 rfl) (by go_simp) (by simp [Value.oneCell']) (by unfold maxLen; omega) (by omega) ?_
                    intro A8 c8 w10 S10
                    have k0 := S10.p2.cell 0 _ rfl
                    have k1 := S10.p2.cells_fz 0
                    have HQ10 := HX.out _ _ S10 (by simp)
                    refine hK.out _ _ ?_ (fun hHeld => ?_)
                    · exact HX.out _ _ S10 (by simp)
                    clear hK K
                    try simp only [Act.put, List.setIfInBounds_toArray, List.set_cons_zero, List.set_cons_succ, List.getElem_toArray, List.getElem_cons_zero, List.getElem_cons_succ]
                    refine wpAnyH_take (i := 8) (oi := _) (v := ?_) rfl (by kernel_rfl) (by kernel_rfl) (by kernel_rfl) (fun _ _ _ h => h) (Or.inl ⟨by rfl, ?_⟩) hHeld ?_
                    rotate_left
                    · intro w' hSw
                      (try dsimp only at hSw)
                      go_simp
                      try with_reducible rfl
                    try simp only [Act.put, List.setIfInBounds_toArray, List.set_cons_zero, List.set_cons_succ, List.getElem_toArray, List.getElem_cons_zero, List.getElem_cons_succ]
                    refine wpAnyH_take (i := 9) (oi := _) (v := ?_) rfl (by kernel_rfl) (by kernel_rfl) (by kernel_rfl) (fun _ _ _ h => h) (Or.inl ⟨by rfl, ?_⟩) hHeld ?_
                    rotate_left
                    · intro w' hSw
                      (try dsimp only at hSw)
                      go_simp
                      try with_reducible rfl
                    try simp only [Act.put, List.setIfInBounds_toArray, List.set_cons_zero, List.set_cons_succ, List.getElem_toArray, List.getElem_cons_zero, List.getElem_cons_succ]
                    refine wpAnyH_ready (rs := [10]) (by kernel_rfl) (by simp) ?_
                    refine AllReadyH.cons rfl (fun K hK => ?_) ?_
                    · go_simp
                      refine hK.out _ _ ?_ (fun hHeld => ?_)
                      · exact HX.out _ _ (S10.p2.setc 0 _) (by simp)
                      clear hK K
                      try simp only [Act.put, List.setIfInBounds_toArray, List.set_cons_zero, List.set_cons_succ, List.getElem_toArray, List.getElem_cons_zero, List.getElem_cons_succ]
                      refine wpAnyH_done (by kernel_rfl) ?_ _
                      have S11 := (S10.p2.setc 0 (.slice A8 (0 + 1) c8)).p2.drop.p4.drop.p1.b3
                      have S12 : Sat g (w10.setCell ⟨t, 0, none⟩ (.slice A8 (0 + 1) c8)) (cellsA t 154 #[.slice A8 ([] ++ [(⟨t1, t2, t3, t4⟩ : WatT)]).length c8, ev, .map (some m)] :: rowA 116 5 ev 0 [] :: mapA kW kW m [] :: rowA 161 4 (.slice A8 ([] ++ [(⟨t1, t2, t3, t4⟩ : WatT)]).length c8) ([] ++ [(⟨t1, t2, t3, t4⟩ : WatT)]).length (([] ++ [(⟨t1, t2, t3, t4⟩ : WatT)]).flatMap watC) :: rdA r yy :: L) := by
                        rw [List.length_append, List.length_singleton, List.flatMap_append, List.flatMap_singleton]
                        exact S11
                      have HS12 := hide (((S12.notesShut (es := [])).bookShut (B := ⟨[] ++ [⟨t1, t2, t3, t4⟩], [], []⟩)).p1)
                      clear S8 S10 S11 S12
                      go_wp2_with fail
                      go_roundw
                      case rel => exact ⟨0 + 1, by omega, (by first | rfl | go_num), by rw [HSTP.out]; exact HS12.out⟩
                      case measure => simp [RowKit.intOf] <;> omega
                    exact AllReadyH.nil
                  exact AllReadyH.nil
                exact AllReadyH.nil
              refine AllReadyH.cons rfl (fun K hK => ?_) ?_
              · go_simp
                refine hK.out _ _ ?_ (fun hHeld => ?_)
                · exact HX.out _ _ (S8.box #[.int .i64 t1, .string (S t2), .bool t3, .bool t4] 161 rfl).drew (by simp)
                clear hK K
                try simp only [Act.put, List.setIfInBounds_toArray, List.set_cons_zero, List.set_cons_succ, List.getElem_toArray, List.getElem_cons_zero, List.getElem_cons_succ]
                refine wpAnyH_ready (rs := [4]) (by kernel_rfl) (by simp) ?_
                refine AllReadyH.cons rfl (fun K hK => ?_) ?_
                · go_simp
                  refine hK.out _ _ ?_ (fun hHeld => ?_)
                  · exact HX.out _ _ (S8.box #[.int .i64 t1, .string (S t2), .bool t3, .bool t4] 161 rfl).drew (by simp)
                  clear hK K
                  try simp only [Act.put, List.setIfInBounds_toArray, List.set_cons_zero, List.set_cons_succ, List.getElem_toArray, List.getElem_cons_zero, List.getElem_cons_succ]
                  refine wpAnyH_ready (rs := [7]) (by kernel_rfl) (by simp) ?_
                  refine AllReadyH.cons rfl (fun K hK => ?_) ?_
                  · refine step_app slW rfl (.tmp 61) (.tmp 63) rfl (g := g) (S := ((S8.box #[.int .i64 t1, .string (S t2), .bool t3, .bool t4] 161 rfl).drew).p4) (by go_simp) (c := 1) (Src.block (heap_alloc_new _ _) 4 1 rfl) (by go_simp) (by simp [Value.oneCell']) (by unfold maxLen; omega) (by omega) ?_
                    intro A8 c8 w10 S10
                    have k0 := S10.p2.cell 0 _ rfl
                    have k1 := S10.p2.cells_fz 0
                    have HQ10 := HX.out _ _ S10 (by simp)
                    refine hK.out _ _ ?_ (fun hHeld => ?_)
                    · exact HX.out _ _ S10 (by simp)
                    clear hK K
                    try simp only [Act.put, List.setIfInBounds_toArray, List.set_cons_zero, List.set_cons_succ, List.getElem_toArray, List.getElem_cons_zero, List.getElem_cons_succ]
                    refine wpAnyH_take (i := 8) (oi := _) (v := ?_) rfl (by kernel_rfl) (by kernel_rfl) (by kernel_rfl) (fun _ _ _ h => h) (Or.inl ⟨by rfl, ?_⟩) hHeld ?_
                    rotate_left
                    · intro w' hSw
                      (try dsimp only at hSw)
                      go_simp
                      try with_reducible rfl
                    try simp only [Act.put, List.setIfInBounds_toArray, List.set_cons_zero, List.set_cons_succ, List.getElem_toArray, List.getElem_cons_zero, List.getElem_cons_succ]
                    refine wpAnyH_take (i := 9) (oi := _) (v := ?_) rfl (by kernel_rfl) (by kernel_rfl) (by kernel_rfl) (fun _ _ _ h => h) (Or.inl ⟨by rfl, ?_⟩) hHeld ?_
                    rotate_left
                    · intro w' hSw
                      (try dsimp only at hSw)
                      go_simp
                      try with_reducible rfl
                    try simp only [Act.put, List.setIfInBounds_toArray, List.set_cons_zero, List.set_cons_succ, List.getElem_toArray, List.getElem_cons_zero, List.getElem_cons_succ]
                    refine wpAnyH_ready (rs := [10]) (by kernel_rfl) (by simp) ?_
                    refine AllReadyH.cons rfl (fun K hK => ?_) ?_
                    · go_simp
                      refine hK.out _ _ ?_ (fun hHeld => ?_)
                      · exact HX.out _ _ (S10.p2.setc 0 _) (by simp)
                      clear hK K
                      try simp only [Act.put, List.setIfInBounds_toArray, List.set_cons_zero, List.set_cons_succ, List.getElem_toArray, List.getElem_cons_zero, List.getElem_cons_succ]
                      refine wpAnyH_done (by kernel_rfl) ?_ _
                      have S11 := (S10.p2.setc 0 (.slice A8 (0 + 1) c8)).p2.drop.p4.drop.p1.b3
                      have S12 : Sat g (w10.setCell ⟨t, 0, none⟩ (.slice A8 (0 + 1) c8)) (cellsA t 154 #[.slice A8 ([] ++ [(⟨t1, t2, t3, t4⟩ : WatT)]).length c8, ev, .map (some m)] :: rowA 116 5 ev 0 [] :: mapA kW kW m [] :: rowA 161 4 (.slice A8 ([] ++ [(⟨t1, t2, t3, t4⟩ : WatT)]).length c8) ([] ++ [(⟨t1, t2, t3, t4⟩ : WatT)]).length (([] ++ [(⟨t1, t2, t3, t4⟩ : WatT)]).flatMap watC) :: rdA r yy :: L) := by
                        rw [List.length_append, List.length_singleton, List.flatMap_append, List.flatMap_singleton]
                        exact S11
                      have HS12 := hide (((S12.notesShut (es := [])).bookShut (B := ⟨[] ++ [⟨t1, t2, t3, t4⟩], [], []⟩)).p1)
                      clear S8 S10 S11 S12
                      go_wp2_with fail
                      go_roundw
                      case rel => exact ⟨0 + 1, by omega, (by first | rfl | go_num), by rw [HSTP.out]; exact HS12.out⟩
                      case measure => simp [RowKit.intOf] <;> omega
                    exact AllReadyH.nil
                  exact AllReadyH.nil
                exact AllReadyH.nil
              exact AllReadyH.nil
            exact AllReadyH.nil

          · have hbd : BD = false := by rw [HBW.out, hlb]; simp [ht]
            subst hbd
            have htb : decide (t1 < 1) = false := by simpa using ht
            clear HBW hlb
            refine wp_region_held_drew (S := fun w' => w'.cell? ⟨xb, 0, none⟩ = some (.int .i64 t1) ∧ w'.cell? ⟨xb, 1, none⟩ = some (.string (S t2)) ∧ w'.cell? ⟨xb, 2, none⟩ = some (.bool t3) ∧ w'.cell? ⟨xb, 3, none⟩ = some (.bool t4)) (by kernel_rfl) ?_ (fun hHeld => ?_)
            · exact HSW.out _ (((Keeps.refl (fun _ => False) w5).drew))
            refine wpAnyH_take (i := 0) (oi := _) (v := ?_) rfl (by kernel_rfl) (by kernel_rfl) (by kernel_rfl) (fun _ _ _ h => h) (Or.inl ⟨by rfl, ?_⟩) hHeld ?_
            rotate_left
            · intro w' hSw
              (try dsimp only at hSw)
              go_simp
              try with_reducible rfl
            try simp only [Act.put, List.setIfInBounds_toArray, List.set_cons_zero, List.set_cons_succ, List.getElem_toArray, List.getElem_cons_zero, List.getElem_cons_succ]
            refine wpAnyH_take (i := 1) (oi := _) (v := ?_) rfl (by kernel_rfl) (by kernel_rfl) (by kernel_rfl) (fun _ _ _ h => h) (Or.inl ⟨by rfl, ?_⟩) hHeld ?_
            rotate_left
            · intro w' hSw
              (try dsimp only at hSw)
              go_simp
              try with_reducible rfl
            try simp only [Act.put, List.setIfInBounds_toArray, List.set_cons_zero, List.set_cons_succ, List.getElem_toArray, List.getElem_cons_zero, List.getElem_cons_succ]
            refine wpAnyH_take (i := 2) (oi := _) (v := ?_) rfl (by kernel_rfl) (by kernel_rfl) (by kernel_rfl) (fun _ _ _ h => h) (Or.inl ⟨by rfl, ?_⟩) hHeld ?_
            rotate_left
            · intro w' hSw
              (try dsimp only at hSw)
              go_simp
              try with_reducible rfl
            try simp only [Act.put, List.setIfInBounds_toArray, List.set_cons_zero, List.set_cons_succ, List.getElem_toArray, List.getElem_cons_zero, List.getElem_cons_succ]
            refine wpAnyH_take (i := 3) (oi := _) (v := undef) rfl (by kernel_rfl) (by kernel_rfl) (by kernel_rfl) (fun _ _ _ h => h) (Or.inr ⟨by rfl, rfl⟩) hHeld ?_
            try simp only [Act.put, List.setIfInBounds_toArray, List.set_cons_zero, List.set_cons_succ, List.getElem_toArray, List.getElem_cons_zero, List.getElem_cons_succ]
            refine wpAnyH_take (i := 4) (oi := _) (v := undef) rfl (by kernel_rfl) (by kernel_rfl) (by kernel_rfl) (fun _ _ _ h => h) (Or.inr ⟨by rfl, rfl⟩) hHeld ?_
            try simp only [Act.put, List.setIfInBounds_toArray, List.set_cons_zero, List.set_cons_succ, List.getElem_toArray, List.getElem_cons_zero, List.getElem_cons_succ]
            refine wpAnyH_take (i := 5) (oi := _) (v := undef) rfl (by kernel_rfl) (by kernel_rfl) (by kernel_rfl) (fun _ _ _ h => h) (Or.inr ⟨by rfl, rfl⟩) hHeld ?_
            try simp only [Act.put, List.setIfInBounds_toArray, List.set_cons_zero, List.set_cons_succ, List.getElem_toArray, List.getElem_cons_zero, List.getElem_cons_succ]
            refine wpAnyH_take (i := 6) (oi := _) (v := undef) rfl (by kernel_rfl) (by kernel_rfl) (by kernel_rfl) (fun _ _ _ h => h) (Or.inr ⟨by rfl, rfl⟩) hHeld ?_
            try simp only [Act.put, List.setIfInBounds_toArray, List.set_cons_zero, List.set_cons_succ, List.getElem_toArray, List.getElem_cons_zero, List.getElem_cons_succ]
            refine wpAnyH_take (i := 7) (oi := _) (v := undef) rfl (by kernel_rfl) (by kernel_rfl) (by kernel_rfl) (fun _ _ _ h => h) (Or.inr ⟨by rfl, rfl⟩) hHeld ?_
            try simp only [Act.put, List.setIfInBounds_toArray, List.set_cons_zero, List.set_cons_succ, List.getElem_toArray, List.getElem_cons_zero, List.getElem_cons_succ]
            refine wpAnyH_take (i := 8) (oi := _) (v := undef) rfl (by kernel_rfl) (by kernel_rfl) (by kernel_rfl) (fun _ _ _ h => h) (Or.inr ⟨by rfl, rfl⟩) hHeld ?_
            try simp only [Act.put, List.setIfInBounds_toArray, List.set_cons_zero, List.set_cons_succ, List.getElem_toArray, List.getElem_cons_zero, List.getElem_cons_succ]
            refine wpAnyH_take (i := 9) (oi := _) (v := undef) rfl (by kernel_rfl) (by kernel_rfl) (by kernel_rfl) (fun _ _ _ h => h) (Or.inr ⟨by rfl, rfl⟩) hHeld ?_
            try simp only [Act.put, List.setIfInBounds_toArray, List.set_cons_zero, List.set_cons_succ, List.getElem_toArray, List.getElem_cons_zero, List.getElem_cons_succ]
            refine wpAnyH_take (i := 10) (oi := _) (v := undef) rfl (by kernel_rfl) (by kernel_rfl) (by kernel_rfl) (fun _ _ _ h => h) (Or.inr ⟨by rfl, rfl⟩) hHeld ?_
            try simp only [Act.put, List.setIfInBounds_toArray, List.set_cons_zero, List.set_cons_succ, List.getElem_toArray, List.getElem_cons_zero, List.getElem_cons_succ]
            refine wpAnyH_take (i := 11) (oi := _) (v := undef) rfl (by kernel_rfl) (by kernel_rfl) (by kernel_rfl) (fun _ _ _ h => h) (Or.inr ⟨by rfl, rfl⟩) hHeld ?_
            try simp only [Act.put, List.setIfInBounds_toArray, List.set_cons_zero, List.set_cons_succ, List.getElem_toArray, List.getElem_cons_zero, List.getElem_cons_succ]
            refine wpAnyH_take (i := 12) (oi := _) (v := undef) rfl (by kernel_rfl) (by kernel_rfl) (by kernel_rfl) (fun _ _ _ h => h) (Or.inr ⟨by rfl, rfl⟩) hHeld ?_
            try simp only [Act.put, List.setIfInBounds_toArray, List.set_cons_zero, List.set_cons_succ, List.getElem_toArray, List.getElem_cons_zero, List.getElem_cons_succ]
            refine wpAnyH_take (i := 13) (oi := _) (v := undef) rfl (by kernel_rfl) (by kernel_rfl) (by kernel_rfl) (fun _ _ _ h => h) (Or.inr ⟨by rfl, rfl⟩) hHeld ?_
            try simp only [Act.put, List.setIfInBounds_toArray, List.set_cons_zero, List.set_cons_succ, List.getElem_toArray, List.getElem_cons_zero, List.getElem_cons_succ]
            refine wpAnyH_take (i := 14) (oi := _) (v := ?_) rfl (by kernel_rfl) (by kernel_rfl) (by kernel_rfl) (fun _ _ _ h => h) (Or.inl ⟨by rfl, ?_⟩) hHeld ?_
            rotate_left
            · intro w' hSw
              (try dsimp only at hSw)
              go_simp
              try with_reducible rfl
            try simp only [Act.put, List.setIfInBounds_toArray, List.set_cons_zero, List.set_cons_succ, List.getElem_toArray, List.getElem_cons_zero, List.getElem_cons_succ]
            refine wpAnyH_take (i := 15) (oi := _) (v := ?_) rfl (by kernel_rfl) (by kernel_rfl) (by kernel_rfl) (fun _ _ _ h => h) (Or.inl ⟨by rfl, ?_⟩) hHeld ?_
            rotate_left
            · intro w' hSw
              (try dsimp only at hSw)
              go_simp
              try with_reducible rfl
            try simp only [Act.put, List.setIfInBounds_toArray, List.set_cons_zero, List.set_cons_succ, List.getElem_toArray, List.getElem_cons_zero, List.getElem_cons_succ]
            refine wpAnyH_take (i := 16) (oi := _) (v := ?_) rfl (by kernel_rfl) (by kernel_rfl) (by kernel_rfl) (fun _ _ _ h => h) (Or.inl ⟨by rfl, ?_⟩) hHeld ?_
            rotate_left
            · intro w' hSw
              (try dsimp only at hSw)
              go_simp
              try with_reducible rfl
            try simp only [Act.put, List.setIfInBounds_toArray, List.set_cons_zero, List.set_cons_succ, List.getElem_toArray, List.getElem_cons_zero, List.getElem_cons_succ]
            refine wpAnyH_take (i := 17) (oi := _) (v := ?_) rfl (by kernel_rfl) (by kernel_rfl) (by kernel_rfl) (fun _ _ _ h => h) (Or.inl ⟨by rfl, ?_⟩) hHeld ?_
            rotate_left
            · intro w' hSw
              (try dsimp only at hSw)
              go_simp
              try with_reducible rfl
            try simp only [Act.put, List.setIfInBounds_toArray, List.set_cons_zero, List.set_cons_succ, List.getElem_toArray, List.getElem_cons_zero, List.getElem_cons_succ]
            refine wpAnyH_ready (rs := [18]) (by kernel_rfl) (by simp) ?_
            refine AllReadyH.cons rfl (fun K hK => ?_) ?_
            · go_simp
              go_at_call 40
              refine (HCH.out _ (HKL.out _ (((Keeps.refl (fun _ => False) w5).drew)))).mono ?_
              rintro e w7 ⟨rfl, hk7⟩
              have K7 := (((Keeps.refl (fun _ => False) w5).drew)).trans' hk7
              have HQ7 := HSW.out _ K7
              refine hK.out _ _ ?_ (fun hHeld => ?_)
              · exact HSW.out _ K7
              clear hK K
              try simp only [Act.put, List.setIfInBounds_toArray, List.set_cons_zero, List.set_cons_succ, List.getElem_toArray, List.getElem_cons_zero, List.getElem_cons_succ]
              refine wpAnyH_take (i := 19) (oi := _) (v := ?_) rfl (by kernel_rfl) (by kernel_rfl) (by kernel_rfl) (fun _ _ _ h => h) (Or.inl ⟨by rfl, ?_⟩) hHeld ?_
              rotate_left
              · intro w' hSw
                (try dsimp only at hSw)
                go_simp
                try with_reducible rfl
              try simp only [Act.put, List.setIfInBounds_toArray, List.set_cons_zero, List.set_cons_succ, List.getElem_toArray, List.getElem_cons_zero, List.getElem_cons_succ]
              refine wpAnyH_take (i := 20) (oi := _) (v := ?_) rfl (by kernel_rfl) (by kernel_rfl) (by kernel_rfl) (fun _ _ _ h => h) (Or.inl ⟨by rfl, ?_⟩) hHeld ?_
              rotate_left
              · intro w' hSw
                (try dsimp only at hSw)
                go_simp
                try with_reducible rfl
              try simp only [Act.put, List.setIfInBounds_toArray, List.set_cons_zero, List.set_cons_succ, List.getElem_toArray, List.getElem_cons_zero, List.getElem_cons_succ]
              refine wpAnyH_take (i := 21) (oi := _) (v := ?_) rfl (by kernel_rfl) (by kernel_rfl) (by kernel_rfl) (fun _ _ _ h => h) (Or.inl ⟨by rfl, ?_⟩) hHeld ?_
              rotate_left
              · intro w' hSw
                (try dsimp only at hSw)
                go_simp
                try with_reducible rfl
              try simp only [Act.put, List.setIfInBounds_toArray, List.set_cons_zero, List.set_cons_succ, List.getElem_toArray, List.getElem_cons_zero, List.getElem_cons_succ]
              refine wpAnyH_take (i := 22) (oi := _) (v := ?_) rfl (by kernel_rfl) (by kernel_rfl) (by kernel_rfl) (fun _ _ _ h => h) (Or.inl ⟨by rfl, ?_⟩) hHeld ?_
              rotate_left
              · intro w' hSw
                (try dsimp only at hSw)
                go_simp
                try with_reducible rfl
              try simp only [Act.put, List.setIfInBounds_toArray, List.set_cons_zero, List.set_cons_succ, List.getElem_toArray, List.getElem_cons_zero, List.getElem_cons_succ]
              refine wpAnyH_take (i := 23) (oi := _) (v := ?_) rfl (by kernel_rfl) (by kernel_rfl) (by kernel_rfl) (fun _ _ _ h => h) (Or.inl ⟨by rfl, ?_⟩) hHeld ?_
              rotate_left
              · intro w' hSw
                (try dsimp only at hSw)
                go_simp
                try with_reducible rfl
              try simp only [Act.put, List.setIfInBounds_toArray, List.set_cons_zero, List.set_cons_succ, List.getElem_toArray, List.getElem_cons_zero, List.getElem_cons_succ]
              refine wpAnyH_take (i := 24) (oi := _) (v := ?_) rfl (by kernel_rfl) (by kernel_rfl) (by kernel_rfl) (fun _ _ _ h => h) (Or.inl ⟨by rfl, ?_⟩) hHeld ?_
              rotate_left
              · intro w' hSw
                (try dsimp only at hSw)
                go_simp
                try with_reducible rfl
              try simp only [Act.put, List.setIfInBounds_toArray, List.set_cons_zero, List.set_cons_succ, List.getElem_toArray, List.getElem_cons_zero, List.getElem_cons_succ]
              refine wpAnyH_take (i := 25) (oi := _) (v := ?_) rfl (by kernel_rfl) (by kernel_rfl) (by kernel_rfl) (fun _ _ _ h => h) (Or.inl ⟨by rfl, ?_⟩) hHeld ?_
              rotate_left
              · intro w' hSw
                (try dsimp only at hSw)
                go_simp
                try with_reducible rfl
              try simp only [Act.put, List.setIfInBounds_toArray, List.set_cons_zero, List.set_cons_succ, List.getElem_toArray, List.getElem_cons_zero, List.getElem_cons_succ]
              refine wpAnyH_done (by kernel_rfl) ?_ _
              have S7 := SX.keep (K7)
              clear SX HSW HCH HKL c0 x0' x1' x2' x3'
              have S8 := S7
              clear S7
              have HSTP : Hid (wsR x0 (0 + 1) = ([] ++ [⟨t1, t2, t3, t4⟩], y4)) := hide (by rw [HSB.out]; first | rfl | simp)
              obtain ⟨yy, hyy⟩ : ∃ z : RS, z = y4 := ⟨_, rfl⟩
              rw [← hyy] at S8 HSTP
              clear hyy HSB
              have k0 := S8.cell 0 _ rfl
              have k2 := (S8.box #[.int .i64 t1, .string (S t2), .bool t3, .bool t4] 161 rfl).p1.cell 0 _ rfl
              have HQ8 := HX.out _ _ S8 (by simp)
              obtain ⟨z0, z1, z2, z3⟩ := HQ8
              go_upto_region 8 with fail
              refine wp_region_held_drew (S := fun w' => w'.cell? ⟨xb, 0, none⟩ = some (.int .i64 t1) ∧ w'.cell? ⟨xb, 1, none⟩ = some (.string (S t2)) ∧ w'.cell? ⟨xb, 2, none⟩ = some (.bool t3) ∧ w'.cell? ⟨xb, 3, none⟩ = some (.bool t4)) (by kernel_rfl) ?_ (fun hHeld => ?_)
              · exact HX.out _ _ S8.drew (by simp)
              refine wpAnyH_take (i := 0) (oi := _) (v := ?_) rfl (by kernel_rfl) (by kernel_rfl) (by kernel_rfl) (fun _ _ _ h => h) (Or.inl ⟨by rfl, ?_⟩) hHeld ?_
              rotate_left
              · intro w' hSw
                (try dsimp only at hSw)
                go_simp
                try with_reducible rfl
              try simp only [Act.put, List.setIfInBounds_toArray, List.set_cons_zero, List.set_cons_succ, List.getElem_toArray, List.getElem_cons_zero, List.getElem_cons_succ]
              refine wpAnyH_take (i := 1) (oi := _) (v := ?_) rfl (by kernel_rfl) (by kernel_rfl) (by kernel_rfl) (fun _ _ _ h => h) (Or.inl ⟨by rfl, ?_⟩) hHeld ?_
              rotate_left
              · intro w' hSw
                (try dsimp only at hSw)
                go_simp
                try with_reducible rfl
              try simp only [Act.put, List.setIfInBounds_toArray, List.set_cons_zero, List.set_cons_succ, List.getElem_toArray, List.getElem_cons_zero, List.getElem_cons_succ]
              refine wpAnyH_take (i := 2) (oi := _) (v := ?_) rfl (by kernel_rfl) (by kernel_rfl) (by kernel_rfl) (fun _ _ _ h => h) (Or.inl ⟨by rfl, ?_⟩) hHeld ?_
              rotate_left
              · intro w' hSw
                (try dsimp only at hSw)
                go_simp
                try with_reducible rfl
              try simp only [Act.put, List.setIfInBounds_toArray, List.set_cons_zero, List.set_cons_succ, List.getElem_toArray, List.getElem_cons_zero, List.getElem_cons_succ]
              refine wpAnyH_take (i := 3) (oi := _) (v := ?_) rfl (by kernel_rfl) (by kernel_rfl) (by kernel_rfl) (fun _ _ _ h => h) (Or.inl ⟨by rfl, ?_⟩) hHeld ?_
              rotate_left
              · intro w' hSw
                (try dsimp only at hSw)
                go_simp
                try with_reducible rfl
              try simp only [Act.put, List.setIfInBounds_toArray, List.set_cons_zero, List.set_cons_succ, List.getElem_toArray, List.getElem_cons_zero, List.getElem_cons_succ]
              refine wpAnyH_take (i := 5) (oi := _) (v := ?_) rfl (by kernel_rfl) (by kernel_rfl) (by kernel_rfl) (fun _ _ _ h => h) (Or.inl ⟨by rfl, ?_⟩) hHeld ?_
              rotate_left
              · intro w' hSw
                (try dsimp only at hSw)
                go_simp
                try with_reducible rfl
              try simp only [Act.put, List.setIfInBounds_toArray, List.set_cons_zero, List.set_cons_succ, List.getElem_toArray, List.getElem_cons_zero, List.getElem_cons_succ]
              refine wpAnyH_ready (rs := [4, 6]) (by kernel_rfl) (by simp) ?_
              refine AllReadyH.cons rfl (fun K hK => ?_) ?_
              · go_simp
                refine hK.out _ _ ?_ (fun hHeld => ?_)
                · exact HX.out _ _ S8.drew (by simp)
                clear hK K
                try simp only [Act.put, List.setIfInBounds_toArray, List.set_cons_zero, List.set_cons_succ, List.getElem_toArray, List.getElem_cons_zero, List.getElem_cons_succ]
                refine wpAnyH_ready (rs := [6]) (by kernel_rfl) (by simp) ?_
                refine AllReadyH.cons rfl (fun K hK => ?_) ?_
                · go_simp
                  refine hK.out _ _ ?_ (fun hHeld => ?_)
                  · exact HX.out _ _ (S8.box #[.int .i64 t1, .string (S t2), .bool t3, .bool t4] 161 rfl).drew (by simp)
                  clear hK K
                  try simp only [Act.put, List.setIfInBounds_toArray, List.set_cons_zero, List.set_cons_succ, List.getElem_toArray, List.getElem_cons_zero, List.getElem_cons_succ]
                  refine wpAnyH_ready (rs := [7]) (by kernel_rfl) (by simp) ?_
                  refine AllReadyH.cons rfl (fun K hK => ?_) ?_
                  · refine step_app slW rfl (.tmp 61) (.tmp 63) rfl (g := g) (S := ((S8.box #[.int .i64 t1, .string (S t2), .bool t3, .bool t4] 161 rfl).drew).p4) (by go_simp) (c := 1) (Src.block (heap_alloc_new _ _) 4 1 rfl) (by go_simp) (by simp [Value.oneCell']) (by unfold maxLen; omega) (by omega) ?_
                    intro A8 c8 w10 S10
                    have k0 := S10.p2.cell 0 _ rfl
                    have k1 := S10.p2.cells_fz 0
                    have HQ10 := HX.out _ _ S10 (by simp)
                    refine hK.out _ _ ?_ (fun hHeld => ?_)
                    · exact HX.out _ _ S10 (by simp)
                    clear hK K
                    try simp only [Act.put, List.setIfInBounds_toArray, List.set_cons_zero, List.set_cons_succ, List.getElem_toArray, List.getElem_cons_zero, List.getElem_cons_succ]
                    refine wpAnyH_take (i := 8) (oi := _) (v := ?_) rfl (by kernel_rfl) (by kernel_rfl) (by kernel_rfl) (fun _ _ _ h => h) (Or.inl ⟨by rfl, ?_⟩) hHeld ?_
                    rotate_left
                    · intro w' hSw
                      (try dsimp only at hSw)
                      go_simp
                      try with_reducible rfl
                    try simp only [Act.put, List.setIfInBounds_toArray, List.set_cons_zero, List.set_cons_succ, List.getElem_toArray, List.getElem_cons_zero, List.getElem_cons_succ]
                    refine wpAnyH_take (i := 9) (oi := _) (v := ?_) rfl (by kernel_rfl) (by kernel_rfl) (by kernel_rfl) (fun _ _ _ h => h) (Or.inl ⟨by rfl, ?_⟩) hHeld ?_
                    rotate_left
                    · intro w' hSw
                      (try dsimp only at hSw)
                      go_simp
                      try with_reducible rfl
                    try simp only [Act.put, List.setIfInBounds_toArray, List.set_cons_zero, List.set_cons_succ, List.getElem_toArray, List.getElem_cons_zero, List.getElem_cons_succ]
                    refine wpAnyH_ready (rs := [10]) (by kernel_rfl) (by simp) ?_
                    refine AllReadyH.cons rfl (fun K hK => ?_) ?_
                    · go_simp
                      refine hK.out _ _ ?_ (fun hHeld => ?_)
                      · exact HX.out _ _ (S10.p2.setc 0 _) (by simp)
                      clear hK K
                      try simp only [Act.put, List.setIfInBounds_toArray, List.set_cons_zero, List.set_cons_succ, List.getElem_toArray, List.getElem_cons_zero, List.getElem_cons_succ]
                      refine wpAnyH_done (by kernel_rfl) ?_ _
                      have S11 := (S10.p2.setc 0 (.slice A8 (0 + 1) c8)).p2.drop.p4.drop.p1.b3
                      have S12 : Sat g (w10.setCell ⟨t, 0, none⟩ (.slice A8 (0 + 1) c8)) (cellsA t 154 #[.slice A8 ([] ++ [(⟨t1, t2, t3, t4⟩ : WatT)]).length c8, ev, .map (some m)] :: rowA 116 5 ev 0 [] :: mapA kW kW m [] :: rowA 161 4 (.slice A8 ([] ++ [(⟨t1, t2, t3, t4⟩ : WatT)]).length c8) ([] ++ [(⟨t1, t2, t3, t4⟩ : WatT)]).length (([] ++ [(⟨t1, t2, t3, t4⟩ : WatT)]).flatMap watC) :: rdA r yy :: L) := by
                        rw [List.length_append, List.length_singleton, List.flatMap_append, List.flatMap_singleton]
                        exact S11
                      have HS12 := hide (((S12.notesShut (es := [])).bookShut (B := ⟨[] ++ [⟨t1, t2, t3, t4⟩], [], []⟩)).p1)
                      clear S8 S10 S11 S12
                      go_wp2_with fail
                      go_roundw
                      case rel => exact ⟨0 + 1, by omega, (by first | rfl | go_num), by rw [HSTP.out]; exact HS12.out⟩
                      case measure => simp [RowKit.intOf] <;> omega
                    exact AllReadyH.nil
                  exact AllReadyH.nil
                exact AllReadyH.nil
              refine AllReadyH.cons rfl (fun K hK => ?_) ?_
              · go_simp
                refine hK.out _ _ ?_ (fun hHeld => ?_)
                · exact HX.out _ _ (S8.box #[.int .i64 t1, .string (S t2), .bool t3, .bool t4] 161 rfl).drew (by simp)
                clear hK K
                try simp only [Act.put, List.setIfInBounds_toArray, List.set_cons_zero, List.set_cons_succ, List.getElem_toArray, List.getElem_cons_zero, List.getElem_cons_succ]
                refine wpAnyH_ready (rs := [4]) (by kernel_rfl) (by simp) ?_
                refine AllReadyH.cons rfl (fun K hK => ?_) ?_
                · go_simp
                  refine hK.out _ _ ?_ (fun hHeld => ?_)
                  · exact HX.out _ _ (S8.box #[.int .i64 t1, .string (S t2), .bool t3, .bool t4] 161 rfl).drew (by simp)
                  clear hK K
                  try simp only [Act.put, List.setIfInBounds_toArray, List.set_cons_zero, List.set_cons_succ, List.getElem_toArray, List.getElem_cons_zero, List.getElem_cons_succ]
                  refine wpAnyH_ready (rs := [7]) (by kernel_rfl) (by simp) ?_
                  refine AllReadyH.cons rfl (fun K hK => ?_) ?_
                  · refine step_app slW rfl (.tmp 61) (.tmp 63) rfl (g := g) (S := ((S8.box #[.int .i64 t1, .string (S t2), .bool t3, .bool t4] 161 rfl).drew).p4) (by go_simp) (c := 1) (Src.block (heap_alloc_new _ _) 4 1 rfl) (by go_simp) (by simp [Value.oneCell']) (by unfold maxLen; omega) (by omega) ?_
                    intro A8 c8 w10 S10
                    have k0 := S10.p2.cell 0 _ rfl
                    have k1 := S10.p2.cells_fz 0
                    have HQ10 := HX.out _ _ S10 (by simp)
                    refine hK.out _ _ ?_ (fun hHeld => ?_)
                    · exact HX.out _ _ S10 (by simp)
                    clear hK K
                    try simp only [Act.put, List.setIfInBounds_toArray, List.set_cons_zero, List.set_cons_succ, List.getElem_toArray, List.getElem_cons_zero, List.getElem_cons_succ]
                    refine wpAnyH_take (i := 8) (oi := _) (v := ?_) rfl (by kernel_rfl) (by kernel_rfl) (by kernel_rfl) (fun _ _ _ h => h) (Or.inl ⟨by rfl, ?_⟩) hHeld ?_
                    rotate_left
                    · intro w' hSw
                      (try dsimp only at hSw)
                      go_simp
                      try with_reducible rfl
                    try simp only [Act.put, List.setIfInBounds_toArray, List.set_cons_zero, List.set_cons_succ, List.getElem_toArray, List.getElem_cons_zero, List.getElem_cons_succ]
                    refine wpAnyH_take (i := 9) (oi := _) (v := ?_) rfl (by kernel_rfl) (by kernel_rfl) (by kernel_rfl) (fun _ _ _ h => h) (Or.inl ⟨by rfl, ?_⟩) hHeld ?_
                    rotate_left
                    · intro w' hSw
                      (try dsimp only at hSw)
                      go_simp
                      try with_reducible rfl
                    try simp only [Act.put, List.setIfInBounds_toArray, List.set_cons_zero, List.set_cons_succ, List.getElem_toArray, List.getElem_cons_zero, List.getElem_cons_succ]
                    refine wpAnyH_ready (rs := [10]) (by kernel_rfl) (by simp) ?_
                    refine AllReadyH.cons rfl (fun K hK => ?_) ?_
                    · go_simp
                      refine hK.out _ _ ?_ (fun hHeld => ?_)
                      · exact HX.out _ _ (S10.p2.setc 0 _) (by simp)
                      clear hK K
                      try simp only [Act.put, List.setIfInBounds_toArray, List.set_cons_zero, List.set_cons_succ, List.getElem_toArray, List.getElem_cons_zero, List.getElem_cons_succ]
                      refine wpAnyH_done (by kernel_rfl) ?_ _
                      have S11 := (S10.p2.setc 0 (.slice A8 (0 + 1) c8)).p2.drop.p4.drop.p1.b3
                      have S12 : Sat g (w10.setCell ⟨t, 0, none⟩ (.slice A8 (0 + 1) c8)) (cellsA t 154 #[.slice A8 ([] ++ [(⟨t1, t2, t3, t4⟩ : WatT)]).length c8, ev, .map (some m)] :: rowA 116 5 ev 0 [] :: mapA kW kW m [] :: rowA 161 4 (.slice A8 ([] ++ [(⟨t1, t2, t3, t4⟩ : WatT)]).length c8) ([] ++ [(⟨t1, t2, t3, t4⟩ : WatT)]).length (([] ++ [(⟨t1, t2, t3, t4⟩ : WatT)]).flatMap watC) :: rdA r yy :: L) := by
                        rw [List.length_append, List.length_singleton, List.flatMap_append, List.flatMap_singleton]
                        exact S11
                      have HS12 := hide (((S12.notesShut (es := [])).bookShut (B := ⟨[] ++ [⟨t1, t2, t3, t4⟩], [], []⟩)).p1)
                      clear S8 S10 S11 S12
                      go_wp2_with fail
                      go_roundw
                      case rel => exact ⟨0 + 1, by omega, (by first | rfl | go_num), by rw [HSTP.out]; exact HS12.out⟩
                      case measure => simp [RowKit.intOf] <;> omega
                    exact AllReadyH.nil
                  exact AllReadyH.nil
                exact AllReadyH.nil
              exact AllReadyH.nil
            exact AllReadyH.nil

        · have hbd : BD = true := by rw [HBW.out, hlb]; simp
          subst hbd
          clear HBW hlb
          refine wp_region_held_drew (S := fun w' => w'.cell? ⟨xb, 0, none⟩ = some (.int .i64 t1) ∧ w'.cell? ⟨xb, 1, none⟩ = some (.string (S t2)) ∧ w'.cell? ⟨xb, 2, none⟩ = some (.bool t3) ∧ w'.cell? ⟨xb, 3, none⟩ = some (.bool t4)) (by kernel_rfl) ?_ (fun hHeld => ?_)
          · exact HSW.out _ (((Keeps.refl (fun _ => False) w5).drew))
          refine wpAnyH_take (i := 0) (oi := _) (v := ?_) rfl (by kernel_rfl) (by kernel_rfl) (by kernel_rfl) (fun _ _ _ h => h) (Or.inl ⟨by rfl, ?_⟩) hHeld ?_
          rotate_left
          · intro w' hSw
            (try dsimp only at hSw)
            go_simp
            try with_reducible rfl
          try simp only [Act.put, List.setIfInBounds_toArray, List.set_cons_zero, List.set_cons_succ, List.getElem_toArray, List.getElem_cons_zero, List.getElem_cons_succ]
          refine wpAnyH_take (i := 1) (oi := _) (v := ?_) rfl (by kernel_rfl) (by kernel_rfl) (by kernel_rfl) (fun _ _ _ h => h) (Or.inl ⟨by rfl, ?_⟩) hHeld ?_
          rotate_left
          · intro w' hSw
            (try dsimp only at hSw)
            go_simp
            try with_reducible rfl
          try simp only [Act.put, List.setIfInBounds_toArray, List.set_cons_zero, List.set_cons_succ, List.getElem_toArray, List.getElem_cons_zero, List.getElem_cons_succ]
          refine wpAnyH_take (i := 2) (oi := _) (v := ?_) rfl (by kernel_rfl) (by kernel_rfl) (by kernel_rfl) (fun _ _ _ h => h) (Or.inl ⟨by rfl, ?_⟩) hHeld ?_
          rotate_left
          · intro w' hSw
            (try dsimp only at hSw)
            go_simp
            try with_reducible rfl
          try simp only [Act.put, List.setIfInBounds_toArray, List.set_cons_zero, List.set_cons_succ, List.getElem_toArray, List.getElem_cons_zero, List.getElem_cons_succ]
          refine wpAnyH_take (i := 3) (oi := _) (v := undef) rfl (by kernel_rfl) (by kernel_rfl) (by kernel_rfl) (fun _ _ _ h => h) (Or.inr ⟨by rfl, rfl⟩) hHeld ?_
          try simp only [Act.put, List.setIfInBounds_toArray, List.set_cons_zero, List.set_cons_succ, List.getElem_toArray, List.getElem_cons_zero, List.getElem_cons_succ]
          refine wpAnyH_take (i := 4) (oi := _) (v := undef) rfl (by kernel_rfl) (by kernel_rfl) (by kernel_rfl) (fun _ _ _ h => h) (Or.inr ⟨by rfl, rfl⟩) hHeld ?_
          try simp only [Act.put, List.setIfInBounds_toArray, List.set_cons_zero, List.set_cons_succ, List.getElem_toArray, List.getElem_cons_zero, List.getElem_cons_succ]
          refine wpAnyH_take (i := 5) (oi := _) (v := undef) rfl (by kernel_rfl) (by kernel_rfl) (by kernel_rfl) (fun _ _ _ h => h) (Or.inr ⟨by rfl, rfl⟩) hHeld ?_
          try simp only [Act.put, List.setIfInBounds_toArray, List.set_cons_zero, List.set_cons_succ, List.getElem_toArray, List.getElem_cons_zero, List.getElem_cons_succ]
          refine wpAnyH_take (i := 6) (oi := _) (v := undef) rfl (by kernel_rfl) (by kernel_rfl) (by kernel_rfl) (fun _ _ _ h => h) (Or.inr ⟨by rfl, rfl⟩) hHeld ?_
          try simp only [Act.put, List.setIfInBounds_toArray, List.set_cons_zero, List.set_cons_succ, List.getElem_toArray, List.getElem_cons_zero, List.getElem_cons_succ]
          refine wpAnyH_take (i := 7) (oi := _) (v := undef) rfl (by kernel_rfl) (by kernel_rfl) (by kernel_rfl) (fun _ _ _ h => h) (Or.inr ⟨by rfl, rfl⟩) hHeld ?_
          try simp only [Act.put, List.setIfInBounds_toArray, List.set_cons_zero, List.set_cons_succ, List.getElem_toArray, List.getElem_cons_zero, List.getElem_cons_succ]
          refine wpAnyH_take (i := 8) (oi := _) (v := undef) rfl (by kernel_rfl) (by kernel_rfl) (by kernel_rfl) (fun _ _ _ h => h) (Or.inr ⟨by rfl, rfl⟩) hHeld ?_
          try simp only [Act.put, List.setIfInBounds_toArray, List.set_cons_zero, List.set_cons_succ, List.getElem_toArray, List.getElem_cons_zero, List.getElem_cons_succ]
          refine wpAnyH_take (i := 9) (oi := _) (v := undef) rfl (by kernel_rfl) (by kernel_rfl) (by kernel_rfl) (fun _ _ _ h => h) (Or.inr ⟨by rfl, rfl⟩) hHeld ?_
          try simp only [Act.put, List.setIfInBounds_toArray, List.set_cons_zero, List.set_cons_succ, List.getElem_toArray, List.getElem_cons_zero, List.getElem_cons_succ]
          refine wpAnyH_take (i := 10) (oi := _) (v := undef) rfl (by kernel_rfl) (by kernel_rfl) (by kernel_rfl) (fun _ _ _ h => h) (Or.inr ⟨by rfl, rfl⟩) hHeld ?_
          try simp only [Act.put, List.setIfInBounds_toArray, List.set_cons_zero, List.set_cons_succ, List.getElem_toArray, List.getElem_cons_zero, List.getElem_cons_succ]
          refine wpAnyH_take (i := 11) (oi := _) (v := undef) rfl (by kernel_rfl) (by kernel_rfl) (by kernel_rfl) (fun _ _ _ h => h) (Or.inr ⟨by rfl, rfl⟩) hHeld ?_
          try simp only [Act.put, List.setIfInBounds_toArray, List.set_cons_zero, List.set_cons_succ, List.getElem_toArray, List.getElem_cons_zero, List.getElem_cons_succ]
          refine wpAnyH_take (i := 12) (oi := _) (v := undef) rfl (by kernel_rfl) (by kernel_rfl) (by kernel_rfl) (fun _ _ _ h => h) (Or.inr ⟨by rfl, rfl⟩) hHeld ?_
          try simp only [Act.put, List.setIfInBounds_toArray, List.set_cons_zero, List.set_cons_succ, List.getElem_toArray, List.getElem_cons_zero, List.getElem_cons_succ]
          refine wpAnyH_take (i := 13) (oi := _) (v := undef) rfl (by kernel_rfl) (by kernel_rfl) (by kernel_rfl) (fun _ _ _ h => h) (Or.inr ⟨by rfl, rfl⟩) hHeld ?_
          try simp only [Act.put, List.setIfInBounds_toArray, List.set_cons_zero, List.set_cons_succ, List.getElem_toArray, List.getElem_cons_zero, List.getElem_cons_succ]
          refine wpAnyH_take (i := 14) (oi := _) (v := ?_) rfl (by kernel_rfl) (by kernel_rfl) (by kernel_rfl) (fun _ _ _ h => h) (Or.inl ⟨by rfl, ?_⟩) hHeld ?_
          rotate_left
          · intro w' hSw
            (try dsimp only at hSw)
            go_simp
            try with_reducible rfl
          try simp only [Act.put, List.setIfInBounds_toArray, List.set_cons_zero, List.set_cons_succ, List.getElem_toArray, List.getElem_cons_zero, List.getElem_cons_succ]
          refine wpAnyH_take (i := 15) (oi := _) (v := ?_) rfl (by kernel_rfl) (by kernel_rfl) (by kernel_rfl) (fun _ _ _ h => h) (Or.inl ⟨by rfl, ?_⟩) hHeld ?_
          rotate_left
          · intro w' hSw
            (try dsimp only at hSw)
            go_simp
            try with_reducible rfl
          try simp only [Act.put, List.setIfInBounds_toArray, List.set_cons_zero, List.set_cons_succ, List.getElem_toArray, List.getElem_cons_zero, List.getElem_cons_succ]
          refine wpAnyH_take (i := 16) (oi := _) (v := ?_) rfl (by kernel_rfl) (by kernel_rfl) (by kernel_rfl) (fun _ _ _ h => h) (Or.inl ⟨by rfl, ?_⟩) hHeld ?_
          rotate_left
          · intro w' hSw
            (try dsimp only at hSw)
            go_simp
            try with_reducible rfl
          try simp only [Act.put, List.setIfInBounds_toArray, List.set_cons_zero, List.set_cons_succ, List.getElem_toArray, List.getElem_cons_zero, List.getElem_cons_succ]
          refine wpAnyH_take (i := 17) (oi := _) (v := ?_) rfl (by kernel_rfl) (by kernel_rfl) (by kernel_rfl) (fun _ _ _ h => h) (Or.inl ⟨by rfl, ?_⟩) hHeld ?_
          rotate_left
          · intro w' hSw
            (try dsimp only at hSw)
            go_simp
            try with_reducible rfl
          try simp only [Act.put, List.setIfInBounds_toArray, List.set_cons_zero, List.set_cons_succ, List.getElem_toArray, List.getElem_cons_zero, List.getElem_cons_succ]
          refine wpAnyH_ready (rs := [18]) (by kernel_rfl) (by simp) ?_
          refine AllReadyH.cons rfl (fun K hK => ?_) ?_
          · go_simp
            go_at_call 40
            refine (HCH.out _ (HKL.out _ (((Keeps.refl (fun _ => False) w5).drew)))).mono ?_
            rintro e w7 ⟨rfl, hk7⟩
            have K7 := (((Keeps.refl (fun _ => False) w5).drew)).trans' hk7
            have HQ7 := HSW.out _ K7
            refine hK.out _ _ ?_ (fun hHeld => ?_)
            · exact HSW.out _ K7
            clear hK K
            try simp only [Act.put, List.setIfInBounds_toArray, List.set_cons_zero, List.set_cons_succ, List.getElem_toArray, List.getElem_cons_zero, List.getElem_cons_succ]
            refine wpAnyH_take (i := 19) (oi := _) (v := ?_) rfl (by kernel_rfl) (by kernel_rfl) (by kernel_rfl) (fun _ _ _ h => h) (Or.inl ⟨by rfl, ?_⟩) hHeld ?_
            rotate_left
            · intro w' hSw
              (try dsimp only at hSw)
              go_simp
              try with_reducible rfl
            try simp only [Act.put, List.setIfInBounds_toArray, List.set_cons_zero, List.set_cons_succ, List.getElem_toArray, List.getElem_cons_zero, List.getElem_cons_succ]
            refine wpAnyH_take (i := 20) (oi := _) (v := ?_) rfl (by kernel_rfl) (by kernel_rfl) (by kernel_rfl) (fun _ _ _ h => h) (Or.inl ⟨by rfl, ?_⟩) hHeld ?_
            rotate_left
            · intro w' hSw
              (try dsimp only at hSw)
              go_simp
              try with_reducible rfl
            try simp only [Act.put, List.setIfInBounds_toArray, List.set_cons_zero, List.set_cons_succ, List.getElem_toArray, List.getElem_cons_zero, List.getElem_cons_succ]
            refine wpAnyH_take (i := 21) (oi := _) (v := ?_) rfl (by kernel_rfl) (by kernel_rfl) (by kernel_rfl) (fun _ _ _ h => h) (Or.inl ⟨by rfl, ?_⟩) hHeld ?_
            rotate_left
            · intro w' hSw
              (try dsimp only at hSw)
              go_simp
              try with_reducible rfl
            try simp only [Act.put, List.setIfInBounds_toArray, List.set_cons_zero, List.set_cons_succ, List.getElem_toArray, List.getElem_cons_zero, List.getElem_cons_succ]
            refine wpAnyH_take (i := 22) (oi := _) (v := undef) rfl (by kernel_rfl) (by kernel_rfl) (by kernel_rfl) (fun _ _ _ h => h) (Or.inr ⟨by rfl, rfl⟩) hHeld ?_
            try simp only [Act.put, List.setIfInBounds_toArray, List.set_cons_zero, List.set_cons_succ, List.getElem_toArray, List.getElem_cons_zero, List.getElem_cons_succ]
            refine wpAnyH_take (i := 23) (oi := _) (v := undef) rfl (by kernel_rfl) (by kernel_rfl) (by kernel_rfl) (fun _ _ _ h => h) (Or.inr ⟨by rfl, rfl⟩) hHeld ?_
            try simp only [Act.put, List.setIfInBounds_toArray, List.set_cons_zero, List.set_cons_succ, List.getElem_toArray, List.getElem_cons_zero, List.getElem_cons_succ]
            refine wpAnyH_take (i := 24) (oi := _) (v := undef) rfl (by kernel_rfl) (by kernel_rfl) (by kernel_rfl) (fun _ _ _ h => h) (Or.inr ⟨by rfl, rfl⟩) hHeld ?_
            try simp only [Act.put, List.setIfInBounds_toArray, List.set_cons_zero, List.set_cons_succ, List.getElem_toArray, List.getElem_cons_zero, List.getElem_cons_succ]
            refine wpAnyH_take (i := 25) (oi := _) (v := ?_) rfl (by kernel_rfl) (by kernel_rfl) (by kernel_rfl) (fun _ _ _ h => h) (Or.inl ⟨by rfl, ?_⟩) hHeld ?_
            rotate_left
            · intro w' hSw
              (try dsimp only at hSw)
              go_simp
              try with_reducible rfl
            try simp only [Act.put, List.setIfInBounds_toArray, List.set_cons_zero, List.set_cons_succ, List.getElem_toArray, List.getElem_cons_zero, List.getElem_cons_succ]
            refine wpAnyH_done (by kernel_rfl) ?_ _
            have S7 := SX.keep (K7)
            clear SX HSW HCH HKL c0 x0' x1' x2' x3'
            go_wp2_with fail
            refine (s_rfail S7.p5).mono ?_
            rintro e w8 ⟨rfl, S7b⟩
            have S8 := S7b.b5
            clear S7 S7b
            have HSTP : Hid (wsR x0 (0 + 1) = ([] ++ [⟨t1, t2, t3, t4⟩], fl)) := hide (by rw [HSB.out]; first | rfl | simp)
            obtain ⟨yy, hyy⟩ : ∃ z : RS, z = fl := ⟨_, rfl⟩
            rw [← hyy] at S8 HSTP
            clear hyy HSB
            have k0 := S8.cell 0 _ rfl
            have k2 := (S8.box #[.int .i64 t1, .string (S t2), .bool t3, .bool t4] 161 rfl).p1.cell 0 _ rfl
            have HQ8 := HX.out _ _ S8 (by simp)
            obtain ⟨z0, z1, z2, z3⟩ := HQ8
            go_upto_region 8 with fail
            refine wp_region_held_drew (S := fun w' => w'.cell? ⟨xb, 0, none⟩ = some (.int .i64 t1) ∧ w'.cell? ⟨xb, 1, none⟩ = some (.string (S t2)) ∧ w'.cell? ⟨xb, 2, none⟩ = some (.bool t3) ∧ w'.cell? ⟨xb, 3, none⟩ = some (.bool t4)) (by kernel_rfl) ?_ (fun hHeld => ?_)
            · exact HX.out _ _ S8.drew (by simp)
            refine wpAnyH_take (i := 0) (oi := _) (v := ?_) rfl (by kernel_rfl) (by kernel_rfl) (by kernel_rfl) (fun _ _ _ h => h) (Or.inl ⟨by rfl, ?_⟩) hHeld ?_
            rotate_left
            · intro w' hSw
              (try dsimp only at hSw)
              go_simp
              try with_reducible rfl
            try simp only [Act.put, List.setIfInBounds_toArray, List.set_cons_zero, List.set_cons_succ, List.getElem_toArray, List.getElem_cons_zero, List.getElem_cons_succ]
            refine wpAnyH_take (i := 1) (oi := _) (v := ?_) rfl (by kernel_rfl) (by kernel_rfl) (by kernel_rfl) (fun _ _ _ h => h) (Or.inl ⟨by rfl, ?_⟩) hHeld ?_
            rotate_left
            · intro w' hSw
              (try dsimp only at hSw)
              go_simp
              try with_reducible rfl
            try simp only [Act.put, List.setIfInBounds_toArray, List.set_cons_zero, List.set_cons_succ, List.getElem_toArray, List.getElem_cons_zero, List.getElem_cons_succ]
            refine wpAnyH_take (i := 2) (oi := _) (v := ?_) rfl (by kernel_rfl) (by kernel_rfl) (by kernel_rfl) (fun _ _ _ h => h) (Or.inl ⟨by rfl, ?_⟩) hHeld ?_
            rotate_left
            · intro w' hSw
              (try dsimp only at hSw)
              go_simp
              try with_reducible rfl
            try simp only [Act.put, List.setIfInBounds_toArray, List.set_cons_zero, List.set_cons_succ, List.getElem_toArray, List.getElem_cons_zero, List.getElem_cons_succ]
            refine wpAnyH_take (i := 3) (oi := _) (v := ?_) rfl (by kernel_rfl) (by kernel_rfl) (by kernel_rfl) (fun _ _ _ h => h) (Or.inl ⟨by rfl, ?_⟩) hHeld ?_
            rotate_left
            · intro w' hSw
              (try dsimp only at hSw)
              go_simp
              try with_reducible rfl
            try simp only [Act.put, List.setIfInBounds_toArray, List.set_cons_zero, List.set_cons_succ, List.getElem_toArray, List.getElem_cons_zero, List.getElem_cons_succ]
            refine wpAnyH_take (i := 5) (oi := _) (v := ?_) rfl (by kernel_rfl) (by kernel_rfl) (by kernel_rfl) (fun _ _ _ h => h) (Or.inl ⟨by rfl, ?_⟩) hHeld ?_
            rotate_left
            · intro w' hSw
              (try dsimp only at hSw)
              go_simp
              try with_reducible rfl
            try simp only [Act.put, List.setIfInBounds_toArray, List.set_cons_zero, List.set_cons_succ, List.getElem_toArray, List.getElem_cons_zero, List.getElem_cons_succ]
            refine wpAnyH_ready (rs := [4, 6]) (by kernel_rfl) (by simp) ?_
            refine AllReadyH.cons rfl (fun K hK => ?_) ?_
            · go_simp
              refine hK.out _ _ ?_ (fun hHeld => ?_)
              · exact HX.out _ _ S8.drew (by simp)
              clear hK K
              try simp only [Act.put, List.setIfInBounds_toArray, List.set_cons_zero, List.set_cons_succ, List.getElem_toArray, List.getElem_cons_zero, List.getElem_cons_succ]
              refine wpAnyH_ready (rs := [6]) (by kernel_rfl) (by simp) ?_
              refine AllReadyH.cons rfl (fun K hK => ?_) ?_
              · go_simp
                refine hK.out _ _ ?_ (fun hHeld => ?_)
                · exact HX.out _ _ (S8.box #[.int .i64 t1, .string (S t2), .bool t3, .bool t4] 161 rfl).drew (by simp)
                clear hK K
                try simp only [Act.put, List.setIfInBounds_toArray, List.set_cons_zero, List.set_cons_succ, List.getElem_toArray, List.getElem_cons_zero, List.getElem_cons_succ]
                refine wpAnyH_ready (rs := [7]) (by kernel_rfl) (by simp) ?_
                refine AllReadyH.cons rfl (fun K hK => ?_) ?_
                · refine step_app slW rfl (.tmp 61) (.tmp 63) rfl (g := g) (S := ((S8.box #[.int .i64 t1, .string (S t2), .bool t3, .bool t4] 161 rfl).drew).p4) (by go_simp) (c := 1) (Src.block (heap_alloc_new _ _) 4 1 rfl) (by go_simp) (by simp [Value.oneCell']) (by unfold maxLen; omega) (by omega) ?_
                  intro A8 c8 w10 S10
                  have k0 := S10.p2.cell 0 _ rfl
                  have k1 := S10.p2.cells_fz 0
                  have HQ10 := HX.out _ _ S10 (by simp)
                  refine hK.out _ _ ?_ (fun hHeld => ?_)
                  · exact HX.out _ _ S10 (by simp)
                  clear hK K
                  try simp only [Act.put, List.setIfInBounds_toArray, List.set_cons_zero, List.set_cons_succ, List.getElem_toArray, List.getElem_cons_zero, List.getElem_cons_succ]
                  refine wpAnyH_take (i := 8) (oi := _) (v := ?_) rfl (by kernel_rfl) (by kernel_rfl) (by kernel_rfl) (fun _ _ _ h => h) (Or.inl ⟨by rfl, ?_⟩) hHeld ?_
                  rotate_left
                  · intro w' hSw
                    (try dsimp only at hSw)
                    go_simp
                    try with_reducible rfl
                  try simp only [Act.put, List.setIfInBounds_toArray, List.set_cons_zero, List.set_cons_succ, List.getElem_toArray, List.getElem_cons_zero, List.getElem_cons_succ]
                  refine wpAnyH_take (i := 9) (oi := _) (v := ?_) rfl (by kernel_rfl) (by kernel_rfl) (by kernel_rfl) (fun _ _ _ h => h) (Or.inl ⟨by rfl, ?_⟩) hHeld ?_
                  rotate_left
                  · intro w' hSw
                    (try dsimp only at hSw)
                    go_simp
                    try with_reducible rfl
                  try simp only [Act.put, List.setIfInBounds_toArray, List.set_cons_zero, List.set_cons_succ, List.getElem_toArray, List.getElem_cons_zero, List.getElem_cons_succ]
                  refine wpAnyH_ready (rs := [10]) (by kernel_rfl) (by simp) ?_
                  refine AllReadyH.cons rfl (fun K hK => ?_) ?_
                  · go_simp
                    refine hK.out _ _ ?_ (fun hHeld => ?_)
                    · exact HX.out _ _ (S10.p2.setc 0 _) (by simp)
                    clear hK K
                    try simp only [Act.put, List.setIfInBounds_toArray, List.set_cons_zero, List.set_cons_succ, List.getElem_toArray, List.getElem_cons_zero, List.getElem_cons_succ]
                    refine wpAnyH_done (by kernel_rfl) ?_ _
                    have S11 := (S10.p2.setc 0 (.slice A8 (0 + 1) c8)).p2.drop.p4.drop.p1.b3
                    have S12 : Sat g (w10.setCell ⟨t, 0, none⟩ (.slice A8 (0 + 1) c8)) (cellsA t 154 #[.slice A8 ([] ++ [(⟨t1, t2, t3, t4⟩ : WatT)]).length c8, ev, .map (some m)] :: rowA 116 5 ev 0 [] :: mapA kW kW m [] :: rowA 161 4 (.slice A8 ([] ++ [(⟨t1, t2, t3, t4⟩ : WatT)]).length c8) ([] ++ [(⟨t1, t2, t3, t4⟩ : WatT)]).length (([] ++ [(⟨t1, t2, t3, t4⟩ : WatT)]).flatMap watC) :: rdA r yy :: L) := by
                      rw [List.length_append, List.length_singleton, List.flatMap_append, List.flatMap_singleton]
                      exact S11
                    have HS12 := hide (((S12.notesShut (es := [])).bookShut (B := ⟨[] ++ [⟨t1, t2, t3, t4⟩], [], []⟩)).p1)
                    clear S8 S10 S11 S12
                    go_wp2_with fail
                    go_roundw
                    case rel => exact ⟨0 + 1, by omega, (by first | rfl | go_num), by rw [HSTP.out]; exact HS12.out⟩
                    case measure => simp [RowKit.intOf] <;> omega
                  exact AllReadyH.nil
                exact AllReadyH.nil
              exact AllReadyH.nil
            refine AllReadyH.cons rfl (fun K hK => ?_) ?_
            · go_simp
              refine hK.out _ _ ?_ (fun hHeld => ?_)
              · exact HX.out _ _ (S8.box #[.int .i64 t1, .string (S t2), .bool t3, .bool t4] 161 rfl).drew (by simp)
              clear hK K
              try simp only [Act.put, List.setIfInBounds_toArray, List.set_cons_zero, List.set_cons_succ, List.getElem_toArray, List.getElem_cons_zero, List.getElem_cons_succ]
              refine wpAnyH_ready (rs := [4]) (by kernel_rfl) (by simp) ?_
              refine AllReadyH.cons rfl (fun K hK => ?_) ?_
              · go_simp
                refine hK.out _ _ ?_ (fun hHeld => ?_)
                · exact HX.out _ _ (S8.box #[.int .i64 t1, .string (S t2), .bool t3, .bool t4] 161 rfl).drew (by simp)
                clear hK K
                try simp only [Act.put, List.setIfInBounds_toArray, List.set_cons_zero, List.set_cons_succ, List.getElem_toArray, List.getElem_cons_zero, List.getElem_cons_succ]
                refine wpAnyH_ready (rs := [7]) (by kernel_rfl) (by simp) ?_
                refine AllReadyH.cons rfl (fun K hK => ?_) ?_
                · refine step_app slW rfl (.tmp 61) (.tmp 63) rfl (g := g) (S := ((S8.box #[.int .i64 t1, .string (S t2), .bool t3, .bool t4] 161 rfl).drew).p4) (by go_simp) (c := 1) (Src.block (heap_alloc_new _ _) 4 1 rfl) (by go_simp) (by simp [Value.oneCell']) (by unfold maxLen; omega) (by omega) ?_
                  intro A8 c8 w10 S10
                  have k0 := S10.p2.cell 0 _ rfl
                  have k1 := S10.p2.cells_fz 0
                  have HQ10 := HX.out _ _ S10 (by simp)
                  refine hK.out _ _ ?_ (fun hHeld => ?_)
                  · exact HX.out _ _ S10 (by simp)
                  clear hK K
                  try simp only [Act.put, List.setIfInBounds_toArray, List.set_cons_zero, List.set_cons_succ, List.getElem_toArray, List.getElem_cons_zero, List.getElem_cons_succ]
                  refine wpAnyH_take (i := 8) (oi := _) (v := ?_) rfl (by kernel_rfl) (by kernel_rfl) (by kernel_rfl) (fun _ _ _ h => h) (Or.inl ⟨by rfl, ?_⟩) hHeld ?_
                  rotate_left
                  · intro w' hSw
                    (try dsimp only at hSw)
                    go_simp
                    try with_reducible rfl
                  try simp only [Act.put, List.setIfInBounds_toArray, List.set_cons_zero, List.set_cons_succ, List.getElem_toArray, List.getElem_cons_zero, List.getElem_cons_succ]
                  refine wpAnyH_take (i := 9) (oi := _) (v := ?_) rfl (by kernel_rfl) (by kernel_rfl) (by kernel_rfl) (fun _ _ _ h => h) (Or.inl ⟨by rfl, ?_⟩) hHeld ?_
                  rotate_left
                  · intro w' hSw
                    (try dsimp only at hSw)
                    go_simp
                    try with_reducible rfl
                  try simp only [Act.put, List.setIfInBounds_toArray, List.set_cons_zero, List.set_cons_succ, List.getElem_toArray, List.getElem_cons_zero, List.getElem_cons_succ]
                  refine wpAnyH_ready (rs := [10]) (by kernel_rfl) (by simp) ?_
                  refine AllReadyH.cons rfl (fun K hK => ?_) ?_
                  · go_simp
                    refine hK.out _ _ ?_ (fun hHeld => ?_)
                    · exact HX.out _ _ (S10.p2.setc 0 _) (by simp)
                    clear hK K
                    try simp only [Act.put, List.setIfInBounds_toArray, List.set_cons_zero, List.set_cons_succ, List.getElem_toArray, List.getElem_cons_zero, List.getElem_cons_succ]
                    refine wpAnyH_done (by kernel_rfl) ?_ _
                    have S11 := (S10.p2.setc 0 (.slice A8 (0 + 1) c8)).p2.drop.p4.drop.p1.b3
                    have S12 : Sat g (w10.setCell ⟨t, 0, none⟩ (.slice A8 (0 + 1) c8)) (cellsA t 154 #[.slice A8 ([] ++ [(⟨t1, t2, t3, t4⟩ : WatT)]).length c8, ev, .map (some m)] :: rowA 116 5 ev 0 [] :: mapA kW kW m [] :: rowA 161 4 (.slice A8 ([] ++ [(⟨t1, t2, t3, t4⟩ : WatT)]).length c8) ([] ++ [(⟨t1, t2, t3, t4⟩ : WatT)]).length (([] ++ [(⟨t1, t2, t3, t4⟩ : WatT)]).flatMap watC) :: rdA r yy :: L) := by
                      rw [List.length_append, List.length_singleton, List.flatMap_append, List.flatMap_singleton]
                      exact S11
                    have HS12 := hide (((S12.notesShut (es := [])).bookShut (B := ⟨[] ++ [⟨t1, t2, t3, t4⟩], [], []⟩)).p1)
                    clear S8 S10 S11 S12
                    go_wp2_with fail
                    go_roundw
                    case rel => exact ⟨0 + 1, by omega, (by first | rfl | go_num), by rw [HSTP.out]; exact HS12.out⟩
                    case measure => simp [RowKit.intOf] <;> omega
                  exact AllReadyH.nil
                exact AllReadyH.nil
              exact AllReadyH.nil
            exact AllReadyH.nil
          exact AllReadyH.nil

    · obtain rfl : k = N := by omega
      have HW1 : Hid (WP = wsR x0 k) := HWP
      have hwl2 := wsR_len x0 k
      clear HST hwl
      rw [← HW1.out] at S3 hwl2
      obtain ⟨ws, y1⟩ := WP
      simp only at S3 HRB hwl2
      have HEP : Hid (esP y1 = esR (rn y1 1024).2 (rn y1 1024).1.toNat) := rfl
      have hm1 := rn_lo y1 1024
      have hm2 := rn_hi y1 1024 (by decide)
      clear HWP HW1 hwl2 hlt hk
      go_wp2_with fail
      refine (s_rnum 1024 S3).mono ?_
      rintro e w3 ⟨rfl, S4⟩
      generalize esP y1 = EP at *
      generalize rn y1 1024 = a0 at *
      obtain ⟨n, x1⟩ := a0
      simp only at HEP hm1 hm2 S4 ⊢
      obtain ⟨N2, rfl⟩ := Int.eq_ofNat_of_zero_le hm1
      simp only [Int.toNat_natCast] at HEP
      clear S3
      go_wp2_with fail
      go_loopw [70] (fun i wr => ∃ k : Nat, k ≤ N2 ∧ i = .int .i64 k ∧ Sat g wr (rdA r (esR x1 k).2 :: bookA t ⟨ws, (esR x1 k).1, []⟩ :: L)) (fun i _ => N2 + 1 - (RowKit.intOf i).toNat)
      case atStart => exact ⟨0, by omega, rfl, S4⟩
      case round =>
        obtain ⟨k, hk, rfl, S5⟩ := hrel
        have hel := esR_len x1 k
        have HST : Hid (esR x1 (k + 1) = ((esR x1 k).1 ++ [(evR (esR x1 k).2).1], (evR (esR x1 k).2).2)) := rfl
        clear S4
        by_cases hlt : k < N2
        · generalize (esR x1 k).1 = es at *
          generalize (esR x1 k).2 = y at *
          subst hel
          have HE : Hid (evR y = (⟨(rn y 281474976710655).1, (rn (rn y 281474976710655).2 281474976710655).1, (rt (rn (rn y 281474976710655).2 281474976710655).2 60).1, (rn (rt (rn (rn y 281474976710655).2 281474976710655).2 60).2 4).1, (rn (rn (rt (rn (rn y 281474976710655).2 281474976710655).2 60).2 4).2 281474976710655).1⟩, (rn (rn (rt (rn (rn y 281474976710655).2 281474976710655).2 60).2 4).2 281474976710655).2)) := rfl
          go_wp2_with fail
          refine (s_rnum 281474976710655 S5).mono ?_
          rintro e wq1 ⟨rfl, Q1⟩
          generalize rn y 281474976710655 = a1 at *
          obtain ⟨t1, y1⟩ := a1
          simp only at HE Q1 ⊢
          clear S5
          go_wp2_with fail
          refine (s_rnum 281474976710655 Q1).mono ?_
          rintro e wq2 ⟨rfl, Q2⟩
          generalize rn y1 281474976710655 = a2 at *
          obtain ⟨t2, y2⟩ := a2
          simp only at HE Q2 ⊢
          clear Q1
          go_wp2_with fail
          refine (s_rtext 60 Q2).mono ?_
          rintro e wq3 ⟨rfl, Q3⟩
          have hlt3 := rt_len y2 60 (by decide)
          generalize rt y2 60 = a3 at *
          obtain ⟨t3, y3⟩ := a3
          simp only at HE Q3 hlt3 ⊢
          clear Q2
          go_wp2_with fail
          refine (s_rnum 4 Q3).mono ?_
          rintro e wq4 ⟨rfl, Q4⟩
          generalize rn y3 4 = a4 at *
          obtain ⟨t4, y4⟩ := a4
          simp only at HE Q4 ⊢
          clear Q3
          go_wp2_with fail
          refine (s_rnum 281474976710655 Q4).mono ?_
          rintro e wq5 ⟨rfl, Q5⟩
          generalize rn y4 281474976710655 = a5 at *
          obtain ⟨t5, y5⟩ := a5
          simp only at HE Q5 ⊢
          clear Q4
          have HSTP : Hid (esR x1 (es.length + 1) = (es ++ [⟨t1, t2, t3, t4, t5⟩], y5)) := hide (by rw [HST.out, HE.out])
          clear HST HE
          go_upto_region 13 with fail
          have S4 := (Q5.box #[.int .i64 t1, .int .i64 t2, .string (S t3), .int .i64 t4, .int .i64 t5] 116 rfl).p2
          generalize wq5.alloc (.cells #[.int .i64 t1, .int .i64 t2, .string (S t3), .int .i64 t4, .int .i64 t5] 116) = w8 at *
          generalize wq5.heap.size = xb at *
          obtain ⟨wv, S5⟩ := S4.bookOpen
          obtain ⟨ev, m, S6⟩ := S5.notesOpen
          obtain ⟨A, c, rfl, -⟩ := S6.p1.row.form
          have S8 : Sat g w8 (cellsA t 154 #[wv, .slice A es.length c, .map (some m)] :: rowA 116 5 (.slice A es.length c) es.length (es.flatMap evC) :: mapA kW kW m [] :: rowA 161 4 wv ws.length (ws.flatMap watC) :: cellsA xb 116 #[.int .i64 t1, .int .i64 t2, .string (S t3), .int .i64 t4, .int .i64 t5] :: rdA r y5 :: L) := S6
          clear Q5 S4 S5 S6
          have k0 := S8.cell 1 _ rfl
          have k2 := (S8.box #[.int .i64 t1, .int .i64 t2, .string (S t3), .int .i64 t4, .int .i64 t5] 116 rfl).p1.cell 1 _ rfl
          have HX : Hid (∀ (w' : World) (L' : List Asn), Sat g w' L' → cellsA xb 116 #[.int .i64 t1, .int .i64 t2, .string (S t3), .int .i64 t4, .int .i64 t5] ∈ L' → w'.cell? ⟨xb, 0, none⟩ = some (.int .i64 t1) ∧ w'.cell? ⟨xb, 1, none⟩ = some (.int .i64 t2) ∧ w'.cell? ⟨xb, 2, none⟩ = some (.string (S t3)) ∧ w'.cell? ⟨xb, 3, none⟩ = some (.int .i64 t4) ∧ w'.cell? ⟨xb, 4, none⟩ = some (.int .i64 t5)) := hide fun w' L' S' h => ⟨S'.cell_of h 0 _ rfl, S'.cell_of h 1 _ rfl, S'.cell_of h 2 _ rfl, S'.cell_of h 3 _ rfl, S'.cell_of h 4 _ rfl⟩
          obtain ⟨z0, z1, z2, z3, z4⟩ := HX.out _ _ S8 (by simp)
          refine wp_region_held_drew (S := fun w' => w'.cell? ⟨xb, 0, none⟩ = some (.int .i64 t1) ∧ w'.cell? ⟨xb, 1, none⟩ = some (.int .i64 t2) ∧ w'.cell? ⟨xb, 2, none⟩ = some (.string (S t3)) ∧ w'.cell? ⟨xb, 3, none⟩ = some (.int .i64 t4) ∧ w'.cell? ⟨xb, 4, none⟩ = some (.int .i64 t5)) (by kernel_rfl) ?_ (fun hHeld => ?_)
          · exact HX.out _ _ S8.drew (by simp)
          refine wpAnyH_take (i := 0) (oi := _) (v := ?_) rfl (by kernel_rfl) (by kernel_rfl) (by kernel_rfl) (fun _ _ _ h => h) (Or.inl ⟨by rfl, ?_⟩) hHeld ?_
          rotate_left
          · intro w' hSw
            (try dsimp only at hSw)
            go_simp
            try with_reducible rfl
          try simp only [Act.put, List.setIfInBounds_toArray, List.set_cons_zero, List.set_cons_succ, List.getElem_toArray, List.getElem_cons_zero, List.getElem_cons_succ]
          refine wpAnyH_take (i := 1) (oi := _) (v := ?_) rfl (by kernel_rfl) (by kernel_rfl) (by kernel_rfl) (fun _ _ _ h => h) (Or.inl ⟨by rfl, ?_⟩) hHeld ?_
          rotate_left
          · intro w' hSw
            (try dsimp only at hSw)
            go_simp
            try with_reducible rfl
          try simp only [Act.put, List.setIfInBounds_toArray, List.set_cons_zero, List.set_cons_succ, List.getElem_toArray, List.getElem_cons_zero, List.getElem_cons_succ]
          refine wpAnyH_take (i := 2) (oi := _) (v := ?_) rfl (by kernel_rfl) (by kernel_rfl) (by kernel_rfl) (fun _ _ _ h => h) (Or.inl ⟨by rfl, ?_⟩) hHeld ?_
          rotate_left
          · intro w' hSw
            (try dsimp only at hSw)
            go_simp
            try with_reducible rfl
          try simp only [Act.put, List.setIfInBounds_toArray, List.set_cons_zero, List.set_cons_succ, List.getElem_toArray, List.getElem_cons_zero, List.getElem_cons_succ]
          refine wpAnyH_take (i := 3) (oi := _) (v := ?_) rfl (by kernel_rfl) (by kernel_rfl) (by kernel_rfl) (fun _ _ _ h => h) (Or.inl ⟨by rfl, ?_⟩) hHeld ?_
          rotate_left
          · intro w' hSw
            (try dsimp only at hSw)
            go_simp
            try with_reducible rfl
          try simp only [Act.put, List.setIfInBounds_toArray, List.set_cons_zero, List.set_cons_succ, List.getElem_toArray, List.getElem_cons_zero, List.getElem_cons_succ]
          refine wpAnyH_take (i := 5) (oi := _) (v := ?_) rfl (by kernel_rfl) (by kernel_rfl) (by kernel_rfl) (fun _ _ _ h => h) (Or.inl ⟨by rfl, ?_⟩) hHeld ?_
          rotate_left
          · intro w' hSw
            (try dsimp only at hSw)
            go_simp
            try with_reducible rfl
          try simp only [Act.put, List.setIfInBounds_toArray, List.set_cons_zero, List.set_cons_succ, List.getElem_toArray, List.getElem_cons_zero, List.getElem_cons_succ]
          refine wpAnyH_ready (rs := [4, 6]) (by kernel_rfl) (by simp) ?_
          refine AllReadyH.cons rfl (fun K hK => ?_) ?_
          · go_simp
            refine hK.out _ _ ?_ (fun hHeld => ?_)
            · exact HX.out _ _ S8.drew (by simp)
            clear hK K
            try simp only [Act.put, List.setIfInBounds_toArray, List.set_cons_zero, List.set_cons_succ, List.getElem_toArray, List.getElem_cons_zero, List.getElem_cons_succ]
            refine wpAnyH_ready (rs := [6]) (by kernel_rfl) (by simp) ?_
            refine AllReadyH.cons rfl (fun K hK => ?_) ?_
            · go_simp
              refine hK.out _ _ ?_ (fun hHeld => ?_)
              · exact HX.out _ _ (S8.box #[.int .i64 t1, .int .i64 t2, .string (S t3), .int .i64 t4, .int .i64 t5] 116 rfl).drew (by simp)
              clear hK K
              try simp only [Act.put, List.setIfInBounds_toArray, List.set_cons_zero, List.set_cons_succ, List.getElem_toArray, List.getElem_cons_zero, List.getElem_cons_succ]
              refine wpAnyH_ready (rs := [7]) (by kernel_rfl) (by simp) ?_
              refine AllReadyH.cons rfl (fun K hK => ?_) ?_
              · refine step_app slV rfl (.tmp 87) (.tmp 89) rfl (g := g) (S := ((S8.box #[.int .i64 t1, .int .i64 t2, .string (S t3), .int .i64 t4, .int .i64 t5] 116 rfl).drew).p2) (by go_simp) (c := 1) (Src.block (heap_alloc_new _ _) 5 1 rfl) (by go_simp) (by simp [Value.oneCell']) (by unfold maxLen; omega) (by omega) ?_
                intro A8 c8 w10 S10
                have k0 := S10.p2.cell 1 _ rfl
                have k1 := S10.p2.cells_fz 1
                have HQ10 := HX.out _ _ S10 (by simp)
                refine hK.out _ _ ?_ (fun hHeld => ?_)
                · exact HX.out _ _ S10 (by simp)
                clear hK K
                try simp only [Act.put, List.setIfInBounds_toArray, List.set_cons_zero, List.set_cons_succ, List.getElem_toArray, List.getElem_cons_zero, List.getElem_cons_succ]
                refine wpAnyH_take (i := 8) (oi := _) (v := ?_) rfl (by kernel_rfl) (by kernel_rfl) (by kernel_rfl) (fun _ _ _ h => h) (Or.inl ⟨by rfl, ?_⟩) hHeld ?_
                rotate_left
                · intro w' hSw
                  (try dsimp only at hSw)
                  go_simp
                  try with_reducible rfl
                try simp only [Act.put, List.setIfInBounds_toArray, List.set_cons_zero, List.set_cons_succ, List.getElem_toArray, List.getElem_cons_zero, List.getElem_cons_succ]
                refine wpAnyH_take (i := 9) (oi := _) (v := ?_) rfl (by kernel_rfl) (by kernel_rfl) (by kernel_rfl) (fun _ _ _ h => h) (Or.inl ⟨by rfl, ?_⟩) hHeld ?_
                rotate_left
                · intro w' hSw
                  (try dsimp only at hSw)
                  go_simp
                  try with_reducible rfl
                try simp only [Act.put, List.setIfInBounds_toArray, List.set_cons_zero, List.set_cons_succ, List.getElem_toArray, List.getElem_cons_zero, List.getElem_cons_succ]
                refine wpAnyH_ready (rs := [10]) (by kernel_rfl) (by simp) ?_
                refine AllReadyH.cons rfl (fun K hK => ?_) ?_
                · go_simp
                  refine hK.out _ _ ?_ (fun hHeld => ?_)
                  · exact HX.out _ _ (S10.p2.setc 1 _) (by simp)
                  clear hK K
                  try simp only [Act.put, List.setIfInBounds_toArray, List.set_cons_zero, List.set_cons_succ, List.getElem_toArray, List.getElem_cons_zero, List.getElem_cons_succ]
                  refine wpAnyH_done (by kernel_rfl) ?_ _
                  have S11 := (S10.p2.setc 1 (.slice A8 (es.length + 1) c8)).p2.drop.p4.drop
                  have S12 : Sat g (w10.setCell ⟨t, 1, none⟩ (.slice A8 (es.length + 1) c8)) (cellsA t 154 #[wv, .slice A8 (es ++ [(⟨t1, t2, t3, t4, t5⟩ : EvT)]).length c8, .map (some m)] :: rowA 116 5 (.slice A8 (es ++ [(⟨t1, t2, t3, t4, t5⟩ : EvT)]).length c8) (es ++ [(⟨t1, t2, t3, t4, t5⟩ : EvT)]).length ((es ++ [(⟨t1, t2, t3, t4, t5⟩ : EvT)]).flatMap evC) :: mapA kW kW m [] :: rowA 161 4 wv ws.length (ws.flatMap watC) :: rdA r y5 :: L) := by
                    rw [List.length_append, List.length_singleton, List.flatMap_append, List.flatMap_singleton]
                    exact S11
                  have HS12 := hide ((S12.notesShut.bookShut (B := ⟨ws, es ++ [⟨t1, t2, t3, t4, t5⟩], []⟩)).p1)
                  clear S8 S10 S11 S12
                  go_wp2_with fail
                  go_roundw
                  case rel => exact ⟨es.length + 1, by omega, (by first | rfl | go_num), by rw [HSTP.out]; exact HS12.out⟩
                  case measure => simp [RowKit.intOf] <;> omega
                exact AllReadyH.nil
              exact AllReadyH.nil
            exact AllReadyH.nil
          refine AllReadyH.cons rfl (fun K hK => ?_) ?_
          · go_simp
            refine hK.out _ _ ?_ (fun hHeld => ?_)
            · exact HX.out _ _ (S8.box #[.int .i64 t1, .int .i64 t2, .string (S t3), .int .i64 t4, .int .i64 t5] 116 rfl).drew (by simp)
            clear hK K
            try simp only [Act.put, List.setIfInBounds_toArray, List.set_cons_zero, List.set_cons_succ, List.getElem_toArray, List.getElem_cons_zero, List.getElem_cons_succ]
            refine wpAnyH_ready (rs := [4]) (by kernel_rfl) (by simp) ?_
            refine AllReadyH.cons rfl (fun K hK => ?_) ?_
            · go_simp
              refine hK.out _ _ ?_ (fun hHeld => ?_)
              · exact HX.out _ _ (S8.box #[.int .i64 t1, .int .i64 t2, .string (S t3), .int .i64 t4, .int .i64 t5] 116 rfl).drew (by simp)
              clear hK K
              try simp only [Act.put, List.setIfInBounds_toArray, List.set_cons_zero, List.set_cons_succ, List.getElem_toArray, List.getElem_cons_zero, List.getElem_cons_succ]
              refine wpAnyH_ready (rs := [7]) (by kernel_rfl) (by simp) ?_
              refine AllReadyH.cons rfl (fun K hK => ?_) ?_
              · refine step_app slV rfl (.tmp 87) (.tmp 89) rfl (g := g) (S := ((S8.box #[.int .i64 t1, .int .i64 t2, .string (S t3), .int .i64 t4, .int .i64 t5] 116 rfl).drew).p2) (by go_simp) (c := 1) (Src.block (heap_alloc_new _ _) 5 1 rfl) (by go_simp) (by simp [Value.oneCell']) (by unfold maxLen; omega) (by omega) ?_
                intro A8 c8 w10 S10
                have k0 := S10.p2.cell 1 _ rfl
                have k1 := S10.p2.cells_fz 1
                have HQ10 := HX.out _ _ S10 (by simp)
                refine hK.out _ _ ?_ (fun hHeld => ?_)
                · exact HX.out _ _ S10 (by simp)
                clear hK K
                try simp only [Act.put, List.setIfInBounds_toArray, List.set_cons_zero, List.set_cons_succ, List.getElem_toArray, List.getElem_cons_zero, List.getElem_cons_succ]
                refine wpAnyH_take (i := 8) (oi := _) (v := ?_) rfl (by kernel_rfl) (by kernel_rfl) (by kernel_rfl) (fun _ _ _ h => h) (Or.inl ⟨by rfl, ?_⟩) hHeld ?_
                rotate_left
                · intro w' hSw
                  (try dsimp only at hSw)
                  go_simp
                  try with_reducible rfl
                try simp only [Act.put, List.setIfInBounds_toArray, List.set_cons_zero, List.set_cons_succ, List.getElem_toArray, List.getElem_cons_zero, List.getElem_cons_succ]
                refine wpAnyH_take (i := 9) (oi := _) (v := ?_) rfl (by kernel_rfl) (by kernel_rfl) (by kernel_rfl) (fun _ _ _ h => h) (Or.inl ⟨by rfl, ?_⟩) hHeld ?_
                rotate_left
                · intro w' hSw
                  (try dsimp only at hSw)
                  go_simp
                  try with_reducible rfl
                try simp only [Act.put, List.setIfInBounds_toArray, List.set_cons_zero, List.set_cons_succ, List.getElem_toArray, List.getElem_cons_zero, List.getElem_cons_succ]
                refine wpAnyH_ready (rs := [10]) (by kernel_rfl) (by simp) ?_
                refine AllReadyH.cons rfl (fun K hK => ?_) ?_
                · go_simp
                  refine hK.out _ _ ?_ (fun hHeld => ?_)
                  · exact HX.out _ _ (S10.p2.setc 1 _) (by simp)
                  clear hK K
                  try simp only [Act.put, List.setIfInBounds_toArray, List.set_cons_zero, List.set_cons_succ, List.getElem_toArray, List.getElem_cons_zero, List.getElem_cons_succ]
                  refine wpAnyH_done (by kernel_rfl) ?_ _
                  have S11 := (S10.p2.setc 1 (.slice A8 (es.length + 1) c8)).p2.drop.p4.drop
                  have S12 : Sat g (w10.setCell ⟨t, 1, none⟩ (.slice A8 (es.length + 1) c8)) (cellsA t 154 #[wv, .slice A8 (es ++ [(⟨t1, t2, t3, t4, t5⟩ : EvT)]).length c8, .map (some m)] :: rowA 116 5 (.slice A8 (es ++ [(⟨t1, t2, t3, t4, t5⟩ : EvT)]).length c8) (es ++ [(⟨t1, t2, t3, t4, t5⟩ : EvT)]).length ((es ++ [(⟨t1, t2, t3, t4, t5⟩ : EvT)]).flatMap evC) :: mapA kW kW m [] :: rowA 161 4 wv ws.length (ws.flatMap watC) :: rdA r y5 :: L) := by
                    rw [List.length_append, List.length_singleton, List.flatMap_append, List.flatMap_singleton]
                    exact S11
                  have HS12 := hide ((S12.notesShut.bookShut (B := ⟨ws, es ++ [⟨t1, t2, t3, t4, t5⟩], []⟩)).p1)
                  clear S8 S10 S11 S12
                  go_wp2_with fail
                  go_roundw
                  case rel => exact ⟨es.length + 1, by omega, (by first | rfl | go_num), by rw [HSTP.out]; exact HS12.out⟩
                  case measure => simp [RowKit.intOf] <;> omega
                exact AllReadyH.nil
              exact AllReadyH.nil
            exact AllReadyH.nil
          exact AllReadyH.nil

        · obtain rfl : k = N2 := by omega
          have HE1 : Hid (EP = esR x1 k) := HEP
          clear HST hel
          rw [← HE1.out] at S5
          obtain ⟨es, y2⟩ := EP
          simp only at S5 HRB
          have HNP : Hid (nosP y2 = ((nosR (rn y2 1024).2 (rn y2 1024).1.toNat).1, (nosR (rn y2 1024).2 (rn y2 1024).1.toNat).2.2)) := rfl
          have hp1 := rn_lo y2 1024
          have hp2 := rn_hi y2 1024 (by decide)
          clear HEP HE1 hlt hk
          go_wp2_with fail
          refine (s_rnum 1024 S5).mono ?_
          rintro e w6 ⟨rfl, S6⟩
          generalize nosP y2 = NP at *
          generalize rn y2 1024 = a0 at *
          obtain ⟨n, x2⟩ := a0
          simp only at HNP hp1 hp2 S6 ⊢
          obtain ⟨N3, rfl⟩ := Int.eq_ofNat_of_zero_le hp1
          simp only [Int.toNat_natCast] at HNP
          clear S5
          go_wp2_with fail
          go_loopw [7, 96] (fun la i wr => ∃ k : Nat, k ≤ N3 ∧ i = .int .i64 k ∧ la = .int .i64 (nosR x2 k).2.1 ∧ Sat g wr (rdA r (nosR x2 k).2.2 :: bookA t ⟨ws, es, (nosR x2 k).1⟩ :: L)) (fun _ i _ => N3 + 1 - (RowKit.intOf i).toNat)
          case atStart => exact ⟨0, by omega, rfl, rfl, S6⟩
          case round =>
            obtain ⟨k, hk, rfl, rfl, S7⟩ := hrel
            have HST : Hid (nosR x2 (k + 1) = (mput (nosR x2 k).1 (noR (nosR x2 k).2.2).1.1 (noR (nosR x2 k).2.2).1.2, (noR (nosR x2 k).2.2).1.1, if (noR (nosR x2 k).2.2).1.1 ≤ (nosR x2 k).2.1 then fl else (noR (nosR x2 k).2.2).2)) := rfl
            clear S6
            by_cases hlt : k < N3
            · generalize (nosR x2 k).1 = nos at *
              generalize (nosR x2 k).2.1 = la at *
              generalize (nosR x2 k).2.2 = y at *
              have HE : Hid (noR y = (((rn y 281474976710655).1, (rn (rn y 281474976710655).2 281474976710655).1), (rn (rn y 281474976710655).2 281474976710655).2)) := rfl
              go_wp2_with fail
              refine (s_rnum 281474976710655 S7).mono ?_
              rintro e wq1 ⟨rfl, Q1⟩
              generalize rn y 281474976710655 = a1 at *
              obtain ⟨t1, y1⟩ := a1
              simp only at HE Q1 ⊢
              clear S7
              go_wp2_with fail
              refine (s_rnum 281474976710655 Q1).mono ?_
              rintro e wq2 ⟨rfl, Q2⟩
              generalize rn y1 281474976710655 = a2 at *
              obtain ⟨t2, y2__⟩ := a2
              simp only at HE Q2 ⊢
              clear Q1
              have HSB : Hid (nosR x2 (k + 1) = (mput nos t1 t2, t1, if t1 ≤ la then fl else y2__)) := hide (by rw [HST.out, HE.out])
              clear HST HE
              by_cases hb : t1 ≤ la
              · have HSTP : Hid (nosR x2 (k + 1) = (mput nos t1 t2, t1, fl)) := hide (by rw [HSB.out, if_pos hb])
                clear HSB
                go_wp2_with fail
                refine (s_rfail Q2).mono ?_
                rintro e w8 ⟨rfl, Q3⟩
                clear Q2
                obtain ⟨wv, S9⟩ := Q3.p1.bookOpen
                obtain ⟨ev, m, S10⟩ := S9.notesOpen
                have c2 := S10.cell 2 _ rfl
                obtain ⟨u, st, wA, wB, hme, hes, hcell, hmo, hku⟩ := S10.p2.mapOf.entry kWT Tryz.underlying151 (z := .int .i64 0) (by kernel_rfl) t1 t2
                have hme' : (Instr.mapEntry 151 (.map (some m)) (.int .i64 t1)).run Tryz.prog w8 = .ok (.tuple #[u, .int .i64 st]) wA := hme
                have hes' : (Instr.entryStore 151 (.map (some m)) (.int .i64 st) (.int .i64 t2)).run Tryz.prog wA = .ok () wB := hes
                have HS11 := hide ((((S10.p2.mapPut hku hmo).b2.notesShut (es := es)).bookShut (B := ⟨ws, es, mput nos t1 t2⟩)).p1)
                clear Q3 S9 S10 hme hes hcell hmo hku
                go_wp2_with fail
                go_roundw
                case rel => exact ⟨k + 1, by omega, (by first | rfl | go_num), by rw [HSTP.out], by rw [HSTP.out]; exact HS11.out⟩
                case measure => simp [RowKit.intOf] <;> omega
              · have HSTP : Hid (nosR x2 (k + 1) = (mput nos t1 t2, t1, y2__)) := hide (by rw [HSB.out, if_neg hb])
                have Q3 := Q2
                clear HSB Q2
                obtain ⟨wv, S9⟩ := Q3.p1.bookOpen
                obtain ⟨ev, m, S10⟩ := S9.notesOpen
                have c2 := S10.cell 2 _ rfl
                obtain ⟨u, st, wA, wB, hme, hes, hcell, hmo, hku⟩ := S10.p2.mapOf.entry kWT Tryz.underlying151 (z := .int .i64 0) (by kernel_rfl) t1 t2
                have hme' : (Instr.mapEntry 151 (.map (some m)) (.int .i64 t1)).run Tryz.prog wq2 = .ok (.tuple #[u, .int .i64 st]) wA := hme
                have hes' : (Instr.entryStore 151 (.map (some m)) (.int .i64 st) (.int .i64 t2)).run Tryz.prog wA = .ok () wB := hes
                have HS11 := hide ((((S10.p2.mapPut hku hmo).b2.notesShut (es := es)).bookShut (B := ⟨ws, es, mput nos t1 t2⟩)).p1)
                clear Q3 S9 S10 hme hes hcell hmo hku
                go_wp2_with fail
                go_roundw
                case rel => exact ⟨k + 1, by omega, (by first | rfl | go_num), by rw [HSTP.out], by rw [HSTP.out]; exact HS11.out⟩
                case measure => simp [RowKit.intOf] <;> omega
            · obtain rfl : k = N3 := by omega
              have HN1 : Hid (NP = ((nosR x2 k).1, (nosR x2 k).2.2)) := HNP
              clear HST HNP
              have hn1' : (nosR x2 k).1 = NP.1 := by rw [HN1.out]
              have hn2' : (nosR x2 k).2.2 = NP.2 := by rw [HN1.out]
              rw [hn1', hn2'] at S7
              clear hn1' hn2' HN1
              obtain ⟨nos, yl, yf⟩ := NP
              simp only at S7 HRB
              go_wp2_with fail
              refine (s_rok S7).mono ?_
              rintro e w9 ⟨rfl, S8⟩
              clear S7
              cases yf
              · have e : RB = (⟨ws, es, nos⟩, (yl, false)) := by rw [HRB.out, if_neg (by decide)]
                have HS := hide S8.p1
                clear S8 HRB
                subst e
                go_wp2_with fail
                go_ret
                exact ⟨_, rfl, HS.out⟩
              · have e : RB = (⟨[], [], []⟩, (yl, true)) := by rw [HRB.out, if_pos rfl]
                clear HRB
                subst e
                go_wp2_with fail
                refine (new_book S8).mono ?_
                rintro e wa ⟨t2, rfl, S9⟩
                have HS := hide S9.p2.drop
                clear S8 S9
                go_wp2_with fail
                go_ret
                exact ⟨_, rfl, HS.out⟩
end

end Go.Proofs.YthgiamofndhehaaGreatDoor
