/- Contracts of the package watch: a book: New, Clone of rows, hears, the closures. No condition. -/
import Derived.Test.YtbfogieeiobpdaaGreatDoorIns
import Derived.Test.YtbfogieeiobpdaaGreatDoorPathM
import Derived.Test.YtbfogieeiobpdaaGreatDoorLow
import Derived.StillTailTactics
set_option linter.unusedVariables false
set_option linter.unusedSimpArgs false
namespace Go.Proofs.YtbfogieeiobpdaaGreatDoor
open Go.RowKit

abbrev kW (k : Int) : Value := .int .i64 k
theorem kWT : KeyT Tryz.prog 3 (.int .i64) kW := ⟨Tryz.underlying3, fun _ => rfl, fun a b h => by injection h⟩
/-- a book: watches in order, events, the last numbers -/
structure BookT where
  ws : List WatT
  es : List EvT
  nos : List (Int × Int)
def notesA (b : Nat) (wv : Value) (es : List EvT) (nos : List (Int × Int)) : Asn := exA fun x : Value × Nat =>
  star (cellsA b 99 #[wv, x.1, .map (some x.2)]) (star (rowA 74 5 x.1 es.length (es.flatMap evC)) (mapA kW kW x.2 nos))
def bookA (b : Nat) (B : BookT) : Asn := exA fun wv : Value => star (notesA b wv B.es B.nos) (rowA 96 4 wv B.ws.length (B.ws.flatMap watC))

section
variable {g w : World} {L : List Asn} {b : Nat} {wv : Value} {es : List EvT} {nos : List (Int × Int)} {B : BookT}
theorem Sat.notesOpen (S : Sat g w (notesA b wv es nos :: L)) : ∃ (ev : Value) (m : Nat), Sat g w (cellsA b 99 #[wv, ev, .map (some m)] :: rowA 74 5 ev es.length (es.flatMap evC) :: mapA kW kW m nos :: L) := by
  obtain ⟨⟨ev, m⟩, S⟩ := S.ex
  exact ⟨ev, m, S.split.p1.split.p2⟩
theorem Sat.notesShut {ev : Value} {m : Nat} (S : Sat g w (cellsA b 99 #[wv, ev, .map (some m)] :: rowA 74 5 ev es.length (es.flatMap evC) :: mapA kW kW m nos :: L)) : Sat g w (notesA b wv es nos :: L) :=
  Sat.ex_ (ev, m) (S.b2.join.p1.join)
theorem Sat.bookOpen (S : Sat g w (bookA b B :: L)) : ∃ wv : Value, Sat g w (notesA b wv B.es B.nos :: rowA 96 4 wv B.ws.length (B.ws.flatMap watC) :: L) := by
  obtain ⟨wv, S⟩ := S.ex
  exact ⟨wv, S.split⟩
theorem Sat.bookShut (S : Sat g w (notesA b wv B.es B.nos :: rowA 96 4 wv B.ws.length (B.ws.flatMap watC) :: L)) : Sat g w (bookA b B :: L) := Sat.ex_ wv S.join
end

theorem new_book {g w : World} {L : List Asn} (S : Sat g w L) : Calls Tryz.prog 11 #[] w fun e w' => ∃ t, e = .returned (ptr t) ∧ Sat g w' (bookA t ⟨[], [], []⟩ :: L) := by
  have hmm := @run_makeMap Tryz.prog
  go_enter Tryz.func11, Tryz.ntmps11
  go_wp2_with fail
  go_ret
  refine ⟨w.heap.size + 1, rfl, ?_⟩
  have S1 : Sat g (w.alloc (.map #[] 0)) (mapA kW kW w.heap.size [] :: L) := S.mapNew ((Keeps.refl _ w).alloc _) (Nat.le_refl _) (MapOf.made kW kW w)
  exact Sat.bookShut (wv := .slice none 0 0) (B := ⟨[], [], []⟩) (Sat.notesShut (((((S1.nilRow 96 4).p1.nilRow 74 5)).box #[.slice none 0 0, .slice none 0 0, .map (some w.heap.size)] 99 (b := w.heap.size + 1) (by simp))))

set_option maxRecDepth 100000 in
set_option maxHeartbeats 4000000 in
theorem clone_wat {g w : World} {L : List Asn} {v : Value} {ws : List WatT} (S : Sat g w (rowA 96 4 v ws.length (ws.flatMap watC) :: L)) (hl : ws.length ≤ 1000000) :
    Calls Tryz.prog 62 #[v] w fun e w' => ∃ v', e = .returned v' ∧ Sat g w' (rowA 96 4 v' ws.length (ws.flatMap watC) :: rowA 96 4 v ws.length (ws.flatMap watC) :: L) := by
  obtain ⟨A, c, rfl, hnc, hcm, hsrc, -⟩ := S.row.form
  have hone := flatK_one watC_one ws
  cases A with
  | none =>
    have h0 : ws.length = 0 := by
      rcases S.row.2 with h | h
      · omega
      · obtain ⟨_, _, _, h, _⟩ := h
        cases h
    have hc : c = 0 := by
      rcases S.row.2 with h | h
      · injection h.1
      · obtain ⟨_, _, _, h, _⟩ := h
        cases h
    have h1 : ws = [] := by simpa using h0
    subst h1 hc
    simp only [List.length_nil]
    have hnil : ∀ w, (Go.binOp .eql 28 (.slice none 0 0) (.slice none 0 0)).run Tryz.prog w = .ok (.bool true) w := fun w => by kernel_rfl
    go_enter Tryz.func62, Tryz.ntmps62
    go_wp2_with fail
    go_ret
    exact ⟨_, rfl, S.nilRow _ _⟩
  | some ad =>
    have hnil : ∀ w, (Go.binOp .eql 28 (.slice (some ad) ws.length c) (.slice none 0 0)).run Tryz.prog w = .ok (.bool false) w := fun w => by kernel_rfl
    have HX := hide hone
    clear hone
    go_enter Tryz.func62, Tryz.ntmps62
    go_wp2_with (at_builtin; refine wpList_sapp slW rfl (.tmp 5) (.tmp 6) rfl (g := g) (S := (S.box #[] 96 rfl).rowOf 4 0 rfl (Nat.zero_le _)) rfl (hsrc.keep ((Keeps.refl (fun _ => False) _).alloc _) (fun _ _ h => h)) rfl HX.out (by unfold maxLen; omega) (by omega) ?_; intro A5 c5 w5 S5)
    go_ret
    refine ⟨_, rfl, ?_⟩
    simpa using S5

def hearsF (x : WatT) (s : List UInt8) (what : Int) : Int × Bool :=
  if x.path = s ∧ (x.kids = false ∨ what = 2) then (what, true) else if x.kids = true ∧ x.path = (upF s).1 ∧ what ≠ 3 then (4, true) else (0, false)

set_option maxRecDepth 100000 in
set_option maxHeartbeats 4000000 in
theorem hears_watch (w : World) (x : WatT) (s : List UInt8) (what : Int) (hs : s.length ≤ 140737488355328) :
    Calls Tryz.prog 84 #[watV x, .string (S s), .int .i64 what] w fun e w' => e = .returned (.tuple #[.int .i64 (hearsF x s what).1, .bool (hearsF x s what).2]) ∧ Keeps (fun _ => False) w w' := by
  have HU : Hid (∀ w, Calls Tryz.prog 86 #[.string (S s)] w fun e w' => e = .returned (.tuple #[.string (S (upF s).1), .string (S (upF s).2)]) ∧ Keeps (fun _ => False) w w') := fun w => up_path w s hs
  have HF : Hid (hearsF x s what = if x.path = s ∧ (x.kids = false ∨ what = 2) then (what, true) else if x.kids = true ∧ x.path = (upF s).1 ∧ what ≠ 3 then (4, true) else (0, false)) := rfl
  generalize hearsF x s what = R at *
  generalize (upF s).1 = U at *
  generalize (upF s).2 = U2 at *
  obtain ⟨ss, p, k, o⟩ := x
  simp only at HF
  have S0 := (Sat.start w).box #[.int .i64 ss, .string (Go.Proofs.YtbfogieeiobpdaaGreatDoor.S p), .bool k, .bool o] 96 rfl
  have hk0 : Keeps (fun _ => False) w (w.alloc (.cells #[.int .i64 ss, .string (Go.Proofs.YtbfogieeiobpdaaGreatDoor.S p), .bool k, .bool o] 96)) := (Keeps.refl _ w).alloc _
  go_enter Tryz.func84, Tryz.ntmps84
  go_upto_region 1 with fail
  generalize w.alloc (.cells #[.int .i64 ss, .string (Go.Proofs.YtbfogieeiobpdaaGreatDoor.S p), .bool k, .bool o] 96) = wB at *
  generalize w.heap.size = xb at *
  have HK0 := hide hk0
  clear hk0
  go_wp2_with fail
  refine (HU.out _).mono ?_
  rintro e w1 ⟨rfl, hk1⟩
  have S1 := S0.keep hk1
  have x1 : w1.cell? ⟨xb, 1, none⟩ = some (.string (Go.Proofs.YtbfogieeiobpdaaGreatDoor.S p)) := S1.cell 1 _ rfl
  have x2 : w1.cell? ⟨xb, 2, none⟩ = some (.bool k) := S1.cell 2 _ rfl
  have HK1 := hide (HK0.out.trans' hk1)
  clear hk1 S1 S0 HK0 HU
  have fin : ∀ (r : Int × Bool), R = r → Ending.returned (.tuple #[.int .i64 r.1, .bool r.2]) = Ending.returned (.tuple #[.int .i64 R.1, .bool R.2]) := fun r h => by rw [h]
  by_cases hp : p = s
  · subst hp
    by_cases hw : k = false ∨ what = 2
    · have e : R = (what, true) := by rw [HF.out, if_pos ⟨rfl, hw⟩]
      subst e
      clear HF fin
      rcases hw with rfl | rfl
      · go_wp2_with fail
        go_ret2
        exact ⟨rfl, HK1.out⟩
      · cases k
        · go_wp2_with fail
          go_ret2
          exact ⟨rfl, HK1.out⟩
        · go_wp2_with fail
          go_ret2
          exact ⟨rfl, HK1.out⟩
    · simp only [not_or] at hw
      obtain ⟨h1, h2⟩ := hw
      obtain rfl : k = true := by simpa using h1
      have h2b : (what == 2) = false := by simpa using h2
      by_cases h3 : p = U ∧ what ≠ 3
      · obtain ⟨rfl, h3⟩ := h3
        have e : R = (4, true) := by rw [HF.out, if_neg (by simp [h2]), if_pos ⟨rfl, rfl, h3⟩]
        subst e
        have h3b : (what == 3) = false := by simpa using h3
        clear HF fin h1
        go_wp2_with fail
        go_ret2
        exact ⟨rfl, HK1.out⟩
      · have e : R = (0, false) := by rw [HF.out, if_neg (by simp [h2]), if_neg (by simpa using h3)]
        subst e
        clear HF fin h1
        by_cases hu : p = U
        · subst hu
          obtain rfl : what = 3 := by simpa using h3
          clear h3
          go_wp2_with fail
          go_ret2
          exact ⟨rfl, HK1.out⟩
        · have hub : (p == U) = false := by simpa using hu
          clear h3
          go_wp2_with fail
          go_ret2
          exact ⟨rfl, HK1.out⟩
  · have hpb : (p == s) = false := by simpa using hp
    by_cases h3 : k = true ∧ p = U ∧ what ≠ 3
    · obtain ⟨rfl, rfl, h3⟩ := h3
      have e : R = (4, true) := by rw [HF.out, if_neg (by simp [hp]), if_pos ⟨rfl, rfl, h3⟩]
      subst e
      have h3b : (what == 3) = false := by simpa using h3
      clear HF fin
      go_wp2_with fail
      go_ret2
      exact ⟨rfl, HK1.out⟩
    · have e : R = (0, false) := by rw [HF.out, if_neg (by simp [hp]), if_neg (by simpa using h3)]
      subst e
      clear HF fin
      cases k
      · clear h3
        go_wp2_with fail
        go_ret2
        exact ⟨rfl, HK1.out⟩
      · by_cases hu : p = U
        · subst hu
          obtain rfl : what = 3 := by simpa using h3
          clear h3
          go_wp2_with fail
          go_ret2
          exact ⟨rfl, HK1.out⟩
        · have hub : (p == U) = false := by simpa using hu
          clear h3
          go_wp2_with fail
          go_ret2
          exact ⟨rfl, HK1.out⟩

end Go.Proofs.YtbfogieeiobpdaaGreatDoor
