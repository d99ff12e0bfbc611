/- Contracts of the package watch: slices.Clone of events. No condition. Contracts of the package watch: Clone of a book. No condition. Contracts of the package watch: numbers sorted; Lay. No condition. A book read from bytes: plain. No condition. A map's entry taken and stored ('m[k], x = v, y'): the same as a store. No condition. Contracts of the package watch: Read. No condition. -/
import Derived.Test.YtanlobdidjednaaGreatDoorWatM
import Derived.Test.YtanlobdidjednaaGreatDoorTreeM
import Derived.Deep.RegionHeld3
import Derived.Test.YtanlobdidjednaaGreatDoorTook
import Derived.Test.YtanlobdidjednaaGreatDoorLow
namespace Go.Proofs.YtanlobdidjednaaGreatDoor
section
set_option linter.unusedVariables false
set_option linter.unusedSimpArgs false
open Go.RowKit

set_option maxRecDepth 100000 in
set_option maxHeartbeats 4000000 in
theorem clone_ev {g w : World} {L : List Asn} {v : Value} {es : List EvT} (S : Sat g w (rowA 95 5 v es.length (es.flatMap evC) :: L)) (hl : es.length ≤ 1000000) :
    Calls Tryz.prog 61 #[v] w fun e w' => ∃ v', e = .returned v' ∧ Sat g w' (rowA 95 5 v' es.length (es.flatMap evC) :: rowA 95 5 v es.length (es.flatMap evC) :: L) := by
  obtain ⟨A, c, rfl, hnc, hcm, hsrc, -⟩ := S.row.form
  have hone := flatK_one evC_one es
  cases A with
  | none =>
    have h0 : es.length = 0 := by
      rcases S.row.2 with h | h
      · omega
      · obtain ⟨_, _, _, h, _⟩ := h
        cases h
    have hc : c = 0 := by
      rcases S.row.2 with h | h
      · injection h.1
      · obtain ⟨_, _, _, h, _⟩ := h
        cases h
    have h1 : es = [] := by simpa using h0
    subst h1 hc
    simp only [List.length_nil]
    have hnil : ∀ w, (Go.binOp .eql 47 (.slice none 0 0) (.slice none 0 0)).run Tryz.prog w = .ok (.bool true) w := fun w => by kernel_rfl
    go_enter Tryz.func61, Tryz.ntmps61
    go_wp2_with fail
    go_ret
    exact ⟨_, rfl, S.nilRow _ _⟩
  | some ad =>
    have hnil : ∀ w, (Go.binOp .eql 47 (.slice (some ad) es.length c) (.slice none 0 0)).run Tryz.prog w = .ok (.bool false) w := fun w => by kernel_rfl
    have HX := hide hone
    clear hone
    go_enter Tryz.func61, Tryz.ntmps61
    go_wp2_with (at_builtin; refine wpList_sapp slV rfl (.tmp 5) (.tmp 6) rfl (g := g) (S := (S.box #[] 95 rfl).rowOf 5 0 rfl (Nat.zero_le _)) rfl (hsrc.keep ((Keeps.refl (fun _ => False) _).alloc _) (fun _ _ h => h)) rfl HX.out (by unfold maxLen; omega) (by omega) ?_; intro A5 c5 w5 S5)
    go_ret
    refine ⟨_, rfl, ?_⟩
    simpa using S5
end

section
set_option linter.unusedVariables false
set_option linter.unusedSimpArgs false
open Go.RowKit

theorem p7 {A B C D E F G H : Asn} {L : List Asn} {h : Hp} (X : stars (A :: B :: C :: D :: E :: F :: G :: H :: L) h) : stars (H :: A :: B :: C :: D :: E :: F :: G :: L) h := star_perm (star_mono (fun _ h => h) (fun _ h => p6 h) X)
theorem Sat.p7 {g w : World} {A B C D E F G H : Asn} {L : List Asn} (S : Sat g w (A :: B :: C :: D :: E :: F :: G :: H :: L)) : Sat g w (H :: A :: B :: C :: D :: E :: F :: G :: L) := S.map fun _ => Go.Proofs.YtanlobdidjednaaGreatDoor.p7

set_option maxRecDepth 100000 in
set_option maxHeartbeats 4000000 in
theorem clone_book {g w : World} {L : List Asn} {b : Nat} {B : BookT} (S : Sat g w (bookA b B :: L)) (hl : B.es.length ≤ 1000000) (hl2 : B.ws.length ≤ 1000) :
    Calls Tryz.prog 40 #[ptr b] w fun e w' => ∃ t nos, e = .returned (ptr t) ∧ (∀ k, mget nos k = mget B.nos k) ∧ Sat g w' (bookA t ⟨B.ws, B.es, nos⟩ :: bookA b B :: L) := by
  go_enter Tryz.func40, Tryz.ntmps40
  go_wp2_with fail
  refine (new_book S).mono ?_
  rintro e w1 ⟨t, rfl, S1⟩
  obtain ⟨wv0, S2⟩ := S1.bookOpen
  obtain ⟨ev0, m0, S3⟩ := S2.notesOpen
  obtain ⟨wv, S4⟩ := (S3.p1.drop.p2.drop).p2.bookOpen
  obtain ⟨ev, m, S5⟩ := S4.notesOpen
  obtain ⟨A, c, rfl, -⟩ := S5.p3.row.form
  obtain ⟨A2, c2, rfl, -⟩ := S5.p1.row.form
  obtain ⟨ws, es, nos⟩ := B
  simp only at hl hl2 S5
  clear S S1 S2 S3 S4
  have c0 := S5.cell 0 _ rfl
  have c1 := S5.cell 1 _ rfl
  go_upto_region 3 with fail
  have q0 := S5.p4.cell 0 _ rfl
  have q1 := S5.p4.cell 1 _ rfl
  go_region_held3 (fun w' => w'.cell? ⟨b, 0, none⟩ = some (.slice A ws.length c) ∧ w'.cell? ⟨b, 1, none⟩ = some (.slice A2 es.length c2)) (first
    | (go_keep; done)
    | exact ⟨((S7.p6.setc 0 _).p5).cell 0 _ rfl, ((S7.p6.setc 0 _).p5).cell 1 _ rfl⟩
    | exact ⟨(((S7.p6.setc 0 _).setc 1 _).p5).cell 0 _ rfl, (((S7.p6.setc 0 _).setc 1 _).p5).cell 1 _ rfl⟩) (first
    | (go_at_call 60; refine (clone_wat S5.drew.p3 (by omega)).mono ?_; rintro e w6 ⟨v6, rfl, S6⟩; have d0 := S6.p2.cell 0 _ rfl; have d1 := S6.p2.cell 1 _ rfl)
    | (go_at_call 61; refine (clone_ev S6.p3 (by omega)).mono ?_; rintro e w7 ⟨v7, rfl, S7⟩; obtain ⟨A6, c6, rfl, -⟩ := S7.p2.row.form; obtain ⟨A7, c7, rfl, -⟩ := S7.row.form; have d0 := S7.p4.cell 0 _ rfl; have d1 := S7.p4.cell 1 _ rfl; have t0 := S7.p6.cell 0 _ rfl; have t1 := S7.p6.cell 1 _ rfl; have g0 := S7.p6.cells_fz 0; have g1 := S7.p6.cells_fz 1))
  have S8 := ((((S7.p6.setc 0 (.slice A6 ws.length c6)).setc 1 (.slice A7 es.length c7)).p6).p7).p1
  have S8' : Sat g ((w7.setCell ⟨t, 0, none⟩ (.slice A6 ws.length c6)).setCell ⟨t, 1, none⟩ (.slice A7 es.length c7)) (mapA kW kW m nos :: mapA kW kW m0 [] :: cellsA t 118 #[.slice A6 ws.length c6, .slice A7 es.length c7, .map (some m0)] :: rowA 95 5 (.slice A7 es.length c7) es.length (es.flatMap evC) :: rowA 95 5 (.slice A2 es.length c2) es.length (es.flatMap evC) :: rowA 126 4 (.slice A6 ws.length c6) ws.length (ws.flatMap watC) :: rowA 126 4 (.slice A ws.length c) ws.length (ws.flatMap watC) :: cellsA b 118 #[.slice A ws.length c, .slice A2 es.length c2, .map (some m)] :: L) := S8
  generalize (w7.setCell ⟨t, 0, none⟩ (.slice A6 ws.length c6)).setCell ⟨t, 1, none⟩ (.slice A7 es.length c7) = w8 at *
  clear S5 S6 S7 S8 c0 c1 q0 q1
  have hnd := S8'.mapOf.nodup
  have b2 := S8'.p7.cell 2 _ rfl
  go_wp2_with (refine wpList_srange rfl _ _ rfl Tryz.underlying115 S8' rfl ?_; intro w9 S9)
  generalize w8.heap.size = ri at *
  clear S8' b2
  go_simp
  go_loopw [5] (fun _ wr => ∃ (lf nos' : List (Int × Int)), (∀ k, mget nos' k = if k ∈ keys lf then none else mget nos k) ∧ Sat g wr (rangeA kW kW m ri nos lf :: mapA kW kW m0 nos' :: cellsA t 118 #[.slice A6 ws.length c6, .slice A7 es.length c7, .map (some m0)] :: rowA 95 5 (.slice A7 es.length c7) es.length (es.flatMap evC) :: rowA 95 5 (.slice A2 es.length c2) es.length (es.flatMap evC) :: rowA 126 4 (.slice A6 ws.length c6) ws.length (ws.flatMap watC) :: rowA 126 4 (.slice A ws.length c) ws.length (ws.flatMap watC) :: cellsA b 118 #[.slice A ws.length c, .slice A2 es.length c2, .map (some m)] :: L)) (fun _ wr => wr.rangeLeft m ri)
  case atStart =>
    refine ⟨nos, [], fun k => ?_, S9⟩
    by_cases hk : k ∈ keys nos
    · rw [if_pos hk]; rfl
    · rw [if_neg hk, mget_none.2 hk]; rfl
  case round =>
    obtain ⟨lf, nos', hrl, S10⟩ := hrel
    clear S9
    have hsub := S10.rangeSub
    have hnl : (keys lf).Nodup := hnd.sublist (hsub.map _)
    have HML := hide S10.rangeLeft
    have HRL := hide hrl
    clear hrl
    go_wp2_with (at_next; refine wpList_snext rfl _ rfl kWT S10 rfl ?_ ?_)
    · intro hl0
      subst hl0
      have R0 := S10.rangeEnd
      have R1 := (((((R0.p7.p5.p1).notesShut).p5.p1).bookShut (B := ⟨ws, es, nos⟩)).p2.p3.p1.p3.b2)
      have R2 := ((R1.notesShut).p2.p1).bookShut (B := ⟨ws, es, nos'⟩)
      have HS := hide R2
      have HE : Hid (∀ k, mget nos' k = mget nos k) := hide fun k => by have := HRL.out k; simpa using this
      clear S10 R0 R1 R2
      go_wp2_with fail
      go_ret
      first | exact ⟨t, nos', rfl, HE.out, HS.out⟩ | exact ⟨t, rfl, nos', HE.out, HS.out⟩
    · intro k nv w5 hm1 hm2 S11 hlt hen
      obtain ⟨w6, hup, hmo, hku⟩ := S11.p1.mapOf.update kWT Tryz.underlying115 k nv
      have hup' : (Instr.mapUpdate 115 (.map (some m0)) (.int .i64 k) (.int .i64 nv)).run Tryz.prog w5 = .ok () w6 := hup
      have HS12 := hide ((S11.p1.mapPut hku hmo).p1)
      have t2 := S11.p2.cell 2 _ rfl
      have HN : Hid (∀ j, mget (mput nos' k nv) j = if j ∈ keys (mdel lf k) then none else mget nos j) := hide fun j => by
        rw [mget_mput, HRL.out j]
        by_cases hj : j = k
        · subst hj
          rw [if_pos rfl, if_neg (fun h => (mem_keys_mdel.1 h).2 rfl), mget_some hnd hm2]
        · rw [if_neg hj]
          by_cases hjl : j ∈ keys lf
          · rw [if_pos hjl, if_pos (mem_keys_mdel.2 ⟨hjl, hj⟩)]
          · rw [if_neg hjl, if_neg (fun h => hjl (mem_keys_mdel.1 h).1)]
      have HLT := hide hlt
      clear S10 hup hmo hku hm1 hm2 hlt hsub hnl
      go_wp2_with fail
      go_roundw
      case rel => exact ⟨mdel lf k, mput nos' k nv, HN.out, HS12.out⟩
      case measure => rw [HS12.out.rangeLeft, HML.out]; exact HLT.out
end

section
set_option linter.unusedVariables false
set_option linter.unusedSimpArgs false
open Go.RowKit

def sortZ (l : List Int) : List Int := l.mergeSort fun x y => decide (x ≤ y)
theorem sortZ_perm (l : List Int) : (sortZ l).Perm l := List.mergeSort_perm _ _
theorem sortZ_length (l : List Int) : (sortZ l).length = l.length := (sortZ_perm l).length_eq
theorem sortZ_eq {l m : List Int} (h : l.Perm m) : sortZ l = sortZ m := by
  have htr : ∀ a b c : Int, decide (a ≤ b) = true → decide (b ≤ c) = true → decide (a ≤ c) = true := by
    intro a b c h1 h2
    simp only [decide_eq_true_eq] at *
    omega
  have hto : ∀ a b : Int, (decide (a ≤ b) || decide (b ≤ a)) = true := by
    intro a b
    simp only [Bool.or_eq_true, decide_eq_true_eq]
    omega
  refine List.Perm.eq_of_pairwise (le := fun a b => decide (a ≤ b) = true) ?_ (List.pairwise_mergeSort htr hto l) (List.pairwise_mergeSort htr hto m) ((sortZ_perm l).trans (h.trans (sortZ_perm m).symm))
  intro a b _ _ h1 h2
  simp only [decide_eq_true_eq] at h1 h2
  omega
theorem sortZ_asc {l : List Int} (h : l.Pairwise (· < ·)) : sortZ l = l := by
  have htr : ∀ a b c : Int, decide (a ≤ b) = true → decide (b ≤ c) = true → decide (a ≤ c) = true := by
    intro a b c h1 h2
    simp only [decide_eq_true_eq] at *
    omega
  have hto : ∀ a b : Int, (decide (a ≤ b) || decide (b ≤ a)) = true := by
    intro a b
    simp only [Bool.or_eq_true, decide_eq_true_eq]
    omega
  refine List.Perm.eq_of_pairwise (le := fun a b => decide (a ≤ b) = true) ?_ (List.pairwise_mergeSort htr hto l) (h.imp fun {a b} h => by simp only [decide_eq_true_eq]; omega) (sortZ_perm l)
  intro a b _ _ h1 h2
  simp only [decide_eq_true_eq] at h1 h2
  omega
theorem sort_ints {g w : World} {L : List Asn} {v : Value} {xs : List Int} (S0 : Sat g w (rowA 3 1 v xs.length (Is xs) :: L)) (hl : xs.length ≤ 1000000) :
    Calls Tryz.prog 100 #[v] w fun e w' => e = .returned (.tuple #[]) ∧ Sat g w' (rowA 3 1 v xs.length (Is (sortZ xs)) :: L) := by
  obtain ⟨hlen, hr⟩ := S0.row
  rcases hr with ⟨rfl, h0⟩ | ⟨b, cap, cur, rfl, _, hb, r1, r2, r3, r4⟩
  · obtain rfl : xs = [] := List.length_eq_zero_iff.1 h0
    refine (Tryz.slices_Sort_int_none none 0 w).mono ?_
    rintro e w' ⟨rfl, rfl⟩
    exact ⟨rfl, by simpa [sortZ] using S0⟩
  · have hcell : ∀ j, (h : j < xs.length) → cur[j]? = some (Value.int .i64 xs[j]) := by
      intro j hj
      have h1 := congrArg (·[j]?) r4
      simp only [Nat.mul_one, List.getElem?_take, hj, if_true, Is, List.getElem?_map, List.getElem?_eq_getElem hj, Option.map_some] at h1
      simpa using h1
    have hH : Go.Sort.Holds (Value.int .i64) w b 0 xs.toArray := by
      intro j hj
      have hj2 : j < xs.length := by simpa using hj
      refine ⟨?_, ?_⟩
      · rw [Nat.zero_add, cell_of_row w b j cur _ (0, 0) hb, hcell j hj2, getElem!_pos _ j hj]
        rfl
      · simp [World.frozen?, hb]
    refine (Tryz.slices_Sort_int b 0 cap xs w hH (heap_lt hb) (by omega)).mono ?_
    rintro e w' ⟨rfl, n, os, rfl⟩
    refine ⟨rfl, ?_⟩
    have hk : Keeps (fun i => i = b) w (Go.Sort.grow (Go.Sort.putRow (Value.int .i64) (Go.Sort.ahead w n) b 0 (sortZ xs).toArray) os) := by
      refine ⟨rfl, rfl, rfl, by simp [Go.Sort.grow, Go.Sort.putRow, Go.Sort.mapBlock, Go.Sort.ahead], fun k hk hn => ?_⟩
      have hn' : ¬ b = k := fun e => hn e.symm
      simp [Go.Sort.grow, Go.Sort.putRow, Go.Sort.mapBlock, Go.Sort.ahead, Array.getElem?_append, Array.getElem?_modify, Array.getElem_modify, hk, hn']
    have hsz : (sortZ xs).length = xs.length := sortZ_length xs
    have hb' : (Go.Sort.grow (Go.Sort.putRow (Value.int .i64) (Go.Sort.ahead w n) b 0 (sortZ xs).toArray) os).heap[b]? = some (.cells (Go.Sort.putCells (Value.int .i64) 0 (sortZ xs).toArray cur) 3 (0, 0)) := by
      have hlt := heap_lt hb
      have hb2 : w.heap[b] = .cells cur 3 (0, 0) := by
        rw [Array.getElem?_eq_getElem hlt] at hb
        exact Option.some.inj hb
      simp [Go.Sort.grow, Go.Sort.putRow, Go.Sort.mapBlock, Go.Sort.ahead, Array.getElem?_append, Array.getElem?_modify, Array.getElem_modify, hlt, hb2, Go.Sort.onCells]
    refine S0.grew (v' := .slice (some ⟨b, 0, none⟩) xs.length cap) ⟨by simp [Is, hsz], .inr ⟨b, cap, _, rfl, Nat.zero_le _, hb', r1, r2, by simpa [Go.Sort.putCells] using r3, ?_⟩⟩ ⟨hk.mono fun i _ e => by rw [e]; rfl, fun g hg => .inl hg⟩
    apply List.ext_getElem?
    intro k
    simp only [Nat.mul_one, List.getElem?_take, Is, List.getElem?_map, Go.Sort.putCells, Array.getElem?_toList, Array.getElem?_mapIdx]
    by_cases hk2 : k < xs.length
    · rw [if_pos hk2, hcell k hk2]
      have h4 : k < (sortZ xs).length := by omega
      have h5 : ((sortZ xs).toArray)[k]! = (sortZ xs)[k] := getElem!_pos (sortZ xs).toArray k (by simpa using h4)
      rw [List.getElem?_eq_getElem h4]
      simp [h4, h5]
    · rw [if_neg hk2, List.getElem?_eq_none (by omega)]
      rfl

theorem slI : Sl Tryz.prog 87 3 1 8 (.int .i64 0) := .mk' Tryz.underlying87 (by kernel_rfl) rfl (by decide)

/-! ### the bytes of a book -/
def watB (x : WatT) : List UInt8 := nums [x.session] ++ txts [x.path] ++ flags [x.kids, x.once]
def evB (x : EvT) : List UInt8 := nums [x.session, x.no] ++ txts [x.path] ++ nums [x.what, x.when_]
def nosB (p : Int × Int) : List UInt8 := nums [p.1, p.2]
def normZ (nos : List (Int × Int)) : List (Int × Int) := (sortZ (keys nos)).map fun k => (k, (mget nos k).getD 0)
def layW (B : BookT) : List UInt8 := nums [(B.ws.length : Int)] ++ B.ws.flatMap watB ++ nums [(B.es.length : Int)] ++ B.es.flatMap evB ++ nums [(B.nos.length : Int)] ++ (normZ B.nos).flatMap nosB
theorem normZ_eq {a b : List (Int × Int)} (ha : (keys a).Nodup) (hb : (keys b).Nodup) (h : ∀ k, mget a k = mget b k) : normZ a = normZ b ∧ a.length = b.length := by
  have hp : (keys a).Perm (keys b) := by
    rw [List.perm_ext_iff_of_nodup ha hb]
    intro k
    rw [mem_keys_mget, mem_keys_mget, h k]
  refine ⟨?_, by have := hp.length_eq; simpa using this⟩
  unfold normZ
  rw [sortZ_eq hp]
  apply List.map_congr_left
  intro k _
  rw [h k]
theorem normZ_length (a : List (Int × Int)) : (normZ a).length = a.length := by unfold normZ; rw [List.length_map, sortZ_length]; simp
theorem watB_le (x : WatT) : (watB x).length ≤ 65600 := by
  have h1 := txts_le [x.path]
  have h2 := nums_length [x.session]
  simp only [List.length_cons, List.length_nil] at h1 h2
  unfold watB
  rw [List.length_append, List.length_append]
  have h3 : (flags [x.kids, x.once]).length = 2 := by simp [flags]
  omega
theorem evB_le (x : EvT) : (evB x).length ≤ 65600 := by
  have h1 := txts_le [x.path]
  have h2 := nums_length [x.session, x.no]
  have h3 := nums_length [x.what, x.when_]
  simp only [List.length_cons, List.length_nil] at h1 h2 h3
  unfold evB
  rw [List.length_append, List.length_append]
  omega
theorem flat_le {α : Type} (f : α → List UInt8) (n : Nat) (h : ∀ x, (f x).length ≤ n) (l : List α) : (l.flatMap f).length ≤ n * l.length := by
  induction l with
  | nil => simp
  | cons a r ih =>
    have := h a
    rw [List.flatMap_cons, List.length_append, List.length_cons, Nat.mul_succ]
    omega
theorem take_flatX {α : Type} (f : α → List UInt8) (l : List α) (k : Nat) (x : α) (h : l[k]? = some x) : (l.take (k + 1)).flatMap f = (l.take k).flatMap f ++ f x := by
  obtain ⟨hk, e⟩ := List.getElem?_eq_some_iff.1 h
  rw [List.take_succ_eq_append_getElem hk, List.flatMap_append, e]
  simp

end

section
set_option linter.unusedVariables false
set_option linter.unusedSimpArgs false
def watR (x : RS) : WatT × RS :=
  let a := rn x 281474976710655
  let b := rt a.2 60
  let c := rf b.2
  let d := rf c.2
  (⟨a.1, b.1, c.1, d.1⟩, d.2)
def lastBad (ws : List WatT) (x : WatT) : Bool := match ws.getLast? with
  | some l => decide (0 ≤ ordF l x)
  | none => false
def badW (ws : List WatT) (x : WatT) : Bool := lastBad ws x || decide (checkF x.path ≠ 0) || decide (x.session < 1)
def wsR (x : RS) : Nat → List WatT × RS
  | 0 => ([], x)
  | k + 1 => ((wsR x k).1 ++ [(watR (wsR x k).2).1], if badW (wsR x k).1 (watR (wsR x k).2).1 = true then fl else (watR (wsR x k).2).2)
def evR (x : RS) : EvT × RS :=
  let a := rn x 281474976710655
  let b := rn a.2 281474976710655
  let c := rt b.2 60
  let d := rn c.2 4
  let e := rn d.2 281474976710655
  (⟨a.1, b.1, c.1, d.1, e.1⟩, e.2)
def esR (x : RS) : Nat → List EvT × RS
  | 0 => ([], x)
  | k + 1 => ((esR x k).1 ++ [(evR (esR x k).2).1], (evR (esR x k).2).2)
def noR (x : RS) : (Int × Int) × RS :=
  let a := rn x 281474976710655
  let b := rn a.2 281474976710655
  ((a.1, b.1), b.2)
def nosR (x : RS) : Nat → List (Int × Int) × Int × RS
  | 0 => ([], 0, x)
  | k + 1 => (mput (nosR x k).1 (noR (nosR x k).2.2).1.1 (noR (nosR x k).2.2).1.2, (noR (nosR x k).2.2).1.1, if (noR (nosR x k).2.2).1.1 ≤ (nosR x k).2.1 then fl else (noR (nosR x k).2.2).2)
def wsP (x : RS) : List WatT × RS := wsR (rn x 40).2 (rn x 40).1.toNat
def esP (x : RS) : List EvT × RS := esR (rn x 1024).2 (rn x 1024).1.toNat
def nosP (x : RS) : List (Int × Int) × RS := ((nosR (rn x 1024).2 (rn x 1024).1.toNat).1, (nosR (rn x 1024).2 (rn x 1024).1.toNat).2.2)
def readB (x : RS) : BookT × RS :=
  let a := wsP x
  let b := esP a.2
  let c := nosP b.2
  (if c.2.2 = true then ⟨[], [], []⟩ else ⟨a.1, b.1, c.1⟩, c.2)

theorem wsR_len (x : RS) (k : Nat) : (wsR x k).1.length = k := by
  induction k with
  | zero => rfl
  | succ k ih => simp [wsR, ih]
theorem esR_len (x : RS) (k : Nat) : (esR x k).1.length = k := by
  induction k with
  | zero => rfl
  | succ k ih => simp [esR, ih]
theorem nosR_len (x : RS) (k : Nat) : (nosR x k).1.length ≤ k := by
  induction k with
  | zero => exact Nat.le_refl _
  | succ k ih =>
    simp only [nosR, length_mput]
    split <;> omega
theorem watR_took (x : RS) : Took x (watB (watR x).1) (watR x).2 := by
  have h1 := rn_took x 281474976710655
  have h2 := rt_took (rn x 281474976710655).2 60
  have h3 := rf_took (rt (rn x 281474976710655).2 60).2
  have h4 := rf_took (rf (rt (rn x 281474976710655).2 60).2).2
  have h := h1.trans (h2.trans (h3.trans h4))
  simp only [watB, watR, txts, nums, flags, List.flatMap_cons, List.flatMap_nil, List.append_nil, List.append_assoc, List.map_cons, List.map_nil]
  exact h
theorem evR_took (x : RS) : Took x (evB (evR x).1) (evR x).2 := by
  have h1 := rn_took x 281474976710655
  have h2 := rn_took (rn x 281474976710655).2 281474976710655
  have h3 := rt_took (rn (rn x 281474976710655).2 281474976710655).2 60
  have h4 := rn_took (rt (rn (rn x 281474976710655).2 281474976710655).2 60).2 4
  have h5 := rn_took (rn (rt (rn (rn x 281474976710655).2 281474976710655).2 60).2 4).2 281474976710655
  have h := h1.trans (h2.trans (h3.trans (h4.trans h5)))
  simp only [evB, evR, txts, nums, List.flatMap_cons, List.flatMap_nil, List.append_nil, List.append_assoc]
  exact h
theorem noR_took (x : RS) : Took x (nosB (noR x).1) (noR x).2 := by
  have h1 := rn_took x 281474976710655
  have h2 := rn_took (rn x 281474976710655).2 281474976710655
  have h := h1.trans h2
  simp only [nosB, noR, nums, List.flatMap_cons, List.flatMap_nil, List.append_nil]
  exact h
theorem wsR_took (x : RS) (k : Nat) : Took x ((wsR x k).1.flatMap watB) (wsR x k).2 := by
  induction k with
  | zero => exact Took.nil _
  | succ k ih =>
    simp only [wsR]
    split
    · intro h; simp [fl] at h
    · have := ih.trans (watR_took (wsR x k).2)
      simpa using this
theorem esR_took (x : RS) (k : Nat) : Took x ((esR x k).1.flatMap evB) (esR x k).2 := by
  induction k with
  | zero => exact Took.nil _
  | succ k ih =>
    simp only [esR]
    have := ih.trans (evR_took (esR x k).2)
    simpa using this
/-- numbers in order, as long as nothing failed -/
theorem nosR_good (x : RS) (k : Nat) (h : (nosR x k).2.2.2 = false) : (keys (nosR x k).1).Pairwise (· < ·) ∧ (∀ j ∈ keys (nosR x k).1, j ≤ (nosR x k).2.1) ∧ x.2 = false ∧ x.1 = (nosR x k).1.flatMap nosB ++ (nosR x k).2.2.1 := by
  induction k with
  | zero => exact ⟨by simp [nosR], by simp [nosR], h, by simp [nosR]⟩
  | succ k ih =>
    simp only [nosR] at h ⊢
    split at h
    · simp [fl] at h
    · rename_i hb
      rw [if_neg hb]
      have ht := noR_took (nosR x k).2.2 h
      obtain ⟨h1, h2, h3, h4⟩ := ih ht.1
      have hfresh : (noR (nosR x k).2.2).1.1 ∉ keys (nosR x k).1 := fun hm => by have := h2 _ hm; omega
      have hput : mput (nosR x k).1 (noR (nosR x k).2.2).1.1 (noR (nosR x k).2.2).1.2 = (nosR x k).1 ++ [(noR (nosR x k).2.2).1] := by
        unfold mput
        rw [mget_none.2 hfresh]
        rfl
      have hk : keys ((nosR x k).1 ++ [(noR (nosR x k).2.2).1]) = keys (nosR x k).1 ++ [(noR (nosR x k).2.2).1.1] := by simp [keys]
      rw [hput, hk]
      refine ⟨?_, ?_, h3, ?_⟩
      · rw [List.pairwise_append]
        refine ⟨h1, by simp, fun a ha b hb => ?_⟩
        simp only [List.mem_singleton] at hb
        subst hb
        have := h2 a ha
        omega
      · intro j hj
        rcases List.mem_append.1 hj with hj | hj
        · have := h2 j hj; omega
        · simp only [List.mem_singleton] at hj; omega
      · rw [h4, ht.2, List.flatMap_append]
        simp
theorem normZ_asc {l : List (Int × Int)} (h : (keys l).Pairwise (· < ·)) : normZ l = l := by
  unfold normZ
  rw [sortZ_asc h]
  have hn : (keys l).Nodup := h.imp fun {a b} h e => by omega
  simp only [keys, List.map_map]
  conv => rhs; rw [← List.map_id l]
  apply List.map_congr_left
  intro p hp
  simp [mget_some hn (show (p.1, p.2) ∈ l from hp)]
theorem wsP_took (x : RS) : Took x (nums [((wsP x).1.length : Int)] ++ (wsP x).1.flatMap watB) (wsP x).2 := by
  have h0 := rn_took x 40
  have hl := rn_lo x 40
  have e : (((wsP x).1.length : Nat) : Int) = (rn x 40).1 := by unfold wsP; rw [wsR_len]; omega
  rw [e]
  have := h0.trans (wsR_took (rn x 40).2 (rn x 40).1.toNat)
  simpa [nums, wsP] using this
theorem esP_took (x : RS) : Took x (nums [((esP x).1.length : Int)] ++ (esP x).1.flatMap evB) (esP x).2 := by
  have h0 := rn_took x 1024
  have hl := rn_lo x 1024
  have e : (((esP x).1.length : Nat) : Int) = (rn x 1024).1 := by unfold esP; rw [esR_len]; omega
  rw [e]
  have := h0.trans (esR_took (rn x 1024).2 (rn x 1024).1.toNat)
  simpa [nums, esP] using this
theorem nosR_full (x : RS) (k : Nat) (h : (nosR x k).2.2.2 = false) : (nosR x k).1.length = k := by
  induction k with
  | zero => rfl
  | succ k ih =>
    simp only [nosR] at h ⊢
    split at h
    · simp [fl] at h
    · rename_i hb
      have ht := noR_took (nosR x k).2.2 h
      obtain ⟨h1, h2, h3, h4⟩ := nosR_good x k ht.1
      have hfresh : (noR (nosR x k).2.2).1.1 ∉ keys (nosR x k).1 := fun hm => by have := h2 _ hm; omega
      rw [length_mput, if_neg hfresh, ih ht.1]
theorem nosP_took (x : RS) (h : (nosP x).2.2 = false) : x.2 = false ∧ x.1 = nums [((nosP x).1.length : Int)] ++ (normZ (nosP x).1).flatMap nosB ++ (nosP x).2.1 := by
  have hl := rn_lo x 1024
  unfold nosP at h ⊢
  simp only at h ⊢
  obtain ⟨h1, h2, h3, h4⟩ := nosR_good _ _ h
  obtain ⟨h5, h6⟩ := rn_took x 1024 h3
  refine ⟨h5, ?_⟩
  rw [normZ_asc h1, nosR_full _ _ h]
  have e : (((rn x 1024).1.toNat : Nat) : Int) = (rn x 1024).1 := by omega
  rw [e, h6, h4]
  simp [nums]
theorem readB_lay (s : List UInt8) (B : BookT) (h : readB (s, false) = (B, ([], false))) : layW B = s := by
  unfold readB at h
  simp only [Prod.mk.injEq] at h
  obtain ⟨h1, h2⟩ := h
  rw [h2] at h1
  simp only [Bool.false_eq_true, if_false] at h1
  have hc := nosP_took (esP (wsP (s, false)).2).2 (by rw [h2])
  have hb := esP_took (wsP (s, false)).2 hc.1
  have ha := wsP_took (s, false) hb.1
  rw [← h1]
  unfold layW
  simp only
  have e := ha.2
  rw [hb.2, hc.2, h2] at e
  simp only [List.append_nil] at e
  refine Eq.trans ?_ e.symm
  simp only [List.append_assoc]
theorem readB_len (x : RS) : (readB x).1.ws.length ≤ 40 ∧ (readB x).1.es.length ≤ 1024 ∧ (readB x).1.nos.length ≤ 1024 := by
  unfold readB
  simp only
  split
  · simp
  · have h1 := rn_hi x 40 (by decide)
    have h2 := rn_hi (wsP x).2 1024 (by decide)
    have h3 := rn_hi (esP (wsP x).2).2 1024 (by decide)
    have h4 := nosR_len (rn (esP (wsP x).2).2 1024).2 (rn (esP (wsP x).2).2 1024).1.toNat
    refine ⟨?_, ?_, ?_⟩
    · show (wsP x).1.length ≤ 40
      unfold wsP
      rw [wsR_len]
      omega
    · show (esP (wsP x).2).1.length ≤ 1024
      rw [show (esP (wsP x).2).1.length = (rn (wsP x).2 1024).1.toNat from by unfold esP; rw [esR_len]]
      omega
    · show (nosP (esP (wsP x).2).2).1.length ≤ 1024
      have : (nosP (esP (wsP x).2).2).1.length ≤ (rn (esP (wsP x).2).2 1024).1.toNat := h4
      omega
theorem readB_fail (x : RS) (h : (readB x).2.2 = true) : (readB x).1 = ⟨[], [], []⟩ := by
  unfold readB at h ⊢
  simp only at h ⊢
  rw [if_pos h]
end

section
set_option linter.unusedVariables false
set_option linter.unusedSimpArgs false
open Go.RowKit Go.MapKept

section
variable {κ α : Type} [DecidableEq κ] {kv : κ → Value} {ev : α → Value} {w : World} {b : Nat} {m : List (κ × α)} {P : Program} {kt : TypeId} {d : TypeDesc}
theorem MapOf.entry (h : MapOf kv ev w b m) (K : KeyT P kt d kv) {t et : TypeId} (ht : P.underlying t = some (.map kt et)) {z : Value} (hz : (zeroValue et).run P w = .ok z w) (k : κ) (v : α) :
    ∃ (u : Value) (st : Nat) (w1 w2 : World), (Instr.mapEntry t (.map (some b)) (kv k)).run P w = .ok (.tuple #[u, .int .i64 st]) w1 ∧ (Instr.entryStore t (.map (some b)) (.int .i64 st) (ev v)).run P w1 = .ok () w2 ∧
      (∀ a : Addr, a.block ≠ b → w1.cell? a = w.cell? a) ∧ MapOf kv ev w2 b (mput m k v) ∧ Keeps (fun i => i = b) w w2 := by
  obtain ⟨w', hup, hm, hk⟩ := h.update K ht k v
  obtain ⟨es, clock, hb, hs, he⟩ := h
  have hks := ents_key K he
  have hcell : ∀ (o : Obj) (a : Addr), a.block ≠ b → ({ w with heap := w.heap.setIfInBounds b o } : World).cell? a = w.cell? a := fun o a ha => World.cell?_of_block ((heap_set hb).2 a.block ha)
  rcases findNow_spec (K.key k) es.toList 0 hks with ⟨h1, h2⟩ | ⟨j, e, h1, h2, h3⟩
  · have e0 : (Instr.mapUpdate t (.map (some b)) (kv k) (ev v)).run P w = .ok () { w with heap := w.heap.setIfInBounds b (.map (es.push { key := kv k, val := ev v, born := clock }) (clock + 1)) } := by
      simp [Instr.mapUpdate, run_underlying ht, MapKept.run_getObj_map hb, run_checkKey K.und (K.key k), run_findKey K.und h1, run_setObj_map _ hb, Result.andThen]
    rw [hup] at e0
    injection e0 with _ e0
    subst e0
    refine ⟨z, clock, { w with heap := w.heap.setIfInBounds b (.map (es.push { key := kv k, val := z, born := clock }) (clock + 1)) }, _, ?_, ?_, fun a ha => hcell _ a ha, hm, hk⟩
    · simp [Instr.mapEntry, run_underlying ht, MapKept.run_getObj_map hb, run_checkKey K.und (K.key k), run_findKey K.und h1, run_setObj_map _ hb, Result.andThen, hz, goInt]
    · have hb1 : ({ w with heap := w.heap.setIfInBounds b (.map (es.push { key := kv k, val := z, born := clock }) (clock + 1)) } : World).heap[b]? = some (.map (es.push { key := kv k, val := z, born := clock }) (clock + 1)) := (heap_set hb).1
      have hf : (es.push { key := kv k, val := z, born := clock }).findIdx? (fun e => (e.born : Int) == (clock : Int)) = some es.size := by
        rw [Array.findIdx?_push]
        have : es.findIdx? (fun e => (e.born : Int) == (clock : Int)) = none := by
          rw [Array.findIdx?_eq_none_iff]
          intro x hx
          have := hs.1 x (by simpa using hx)
          simp
          omega
        rw [this]
        simp
      have ha : (es.push { key := kv k, val := z, born := clock }).modify es.size (fun e => { e with val := ev v }) = es.push { key := kv k, val := ev v, born := clock } := by
        apply Array.ext
        · simp
        · intro i h4 h5
          simp only [Array.getElem_modify, Array.getElem_push]
          by_cases hi : i < es.size
          · have hne : ¬ es.size = i := by omega
            simp [hi, hne]
          · have hne : es.size = i := by simp at h4; omega
            simp [hi, hne]
      simp only [Instr.entryStore, Sem.run_bind, MapKept.run_getObj_map hb1, Result.andThen_ok, asInt, asIntOf, Sem.run_pure, hf, run_setObj_map _ hb1, ha]
      simp
  · have hj : es[j]? = some e := by simpa using h2
    have e0 : (Instr.mapUpdate t (.map (some b)) (kv k) (ev v)).run P w = .ok () { w with heap := w.heap.setIfInBounds b (.map (es.modify j fun e => { e with key := kv k, val := ev v }) clock) } := by
      simp [Instr.mapUpdate, run_underlying ht, MapKept.run_getObj_map hb, run_checkKey K.und (K.key k), run_findKey K.und h1, hj, h3, run_keyThatStays (K.key k), run_setObj_map _ hb, Result.andThen]
    rw [hup] at e0
    injection e0 with _ e0
    subst e0
    refine ⟨e.val, e.born, { w with heap := w.heap.setIfInBounds b (.map (es.modify j fun e => { e with key := kv k }) clock) }, _, ?_, ?_, fun a ha => hcell _ a ha, hm, hk⟩
    · simp [Instr.mapEntry, run_underlying ht, MapKept.run_getObj_map hb, run_checkKey K.und (K.key k), run_findKey K.und h1, hj, h3, run_keyThatStays (K.key k), run_setObj_map _ hb, Result.andThen, goInt]
    · have hb1 : ({ w with heap := w.heap.setIfInBounds b (.map (es.modify j fun e => { e with key := kv k }) clock) } : World).heap[b]? = some (.map (es.modify j fun e => { e with key := kv k }) clock) := (heap_set hb).1
      have hjl : j < es.size := (Array.getElem?_eq_some_iff.1 hj).1
      have hje : es[j] = e := (Array.getElem?_eq_some_iff.1 hj).2
      have hf : (es.modify j fun e => { e with key := kv k }).findIdx? (fun x => (x.born : Int) == (e.born : Int)) = some j := by
        rw [Array.findIdx?_eq_some_iff_getElem]
        refine ⟨by simpa using hjl, ?_, fun i hi => ?_⟩
        · simp [Array.getElem_modify, hje]
        · have hn := List.pairwise_iff_getElem.1 hs.2.1
          have := hn i j (by simp; omega) (by simpa using hjl) hi
          simp only [List.getElem_map, Array.getElem_toList, hje] at this
          have hij : ¬ j = i := by omega
          simp [Array.getElem_modify, hij]
          omega
      have ha : (es.modify j fun e => { e with key := kv k }).modify j (fun e => { e with val := ev v }) = es.modify j fun e => { e with key := kv k, val := ev v } := by
        apply Array.ext
        · simp
        · intro i h4 h5
          simp only [Array.getElem_modify]
          split <;> rfl
      simp only [Instr.entryStore, Sem.run_bind, MapKept.run_getObj_map hb1, Result.andThen_ok, asInt, asIntOf, Sem.run_pure, hf, run_setObj_map _ hb1, ha]
      simp
end
end

section
set_option linter.unusedVariables false
set_option linter.unusedSimpArgs false
open Go.RowKit

theorem lastBad_at {ws : List WatT} {x l : WatT} (h : ws[ws.length - 1]? = some l) : lastBad ws x = decide (0 ≤ ordF l x) := by
  unfold lastBad
  rw [List.getLast?_eq_getElem?, h]
end

end Go.Proofs.YtanlobdidjednaaGreatDoor
