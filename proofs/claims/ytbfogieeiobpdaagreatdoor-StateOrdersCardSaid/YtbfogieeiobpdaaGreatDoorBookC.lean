/- Contracts of the package watch: the closures of Drop and Noted; Drop, Noted, Events, Watches. No condition. -/
import Derived.Test.YtbfogieeiobpdaaGreatDoorBook
set_option linter.unusedVariables false
set_option linter.unusedSimpArgs false
namespace Go.Proofs.YtbfogieeiobpdaaGreatDoor
open Go.RowKit

set_option maxRecDepth 100000 in
theorem drop1_watch {g w : World} {L : List Asn} (x : WatT) (sess : Int) {sb : Nat} (S : Sat g w (cellsA sb 3 #[.int .i64 sess] :: L)) :
    Calls Tryz.prog 89 #[watV x, ptr sb] w fun e w' => e = .returned (.bool (decide (x.session = sess))) ∧ Keeps (fun _ => False) w w' := by
  have HK := hide ((Keeps.refl (fun _ => False) w).alloc (.cells #[.int .i64 x.session, .string (Go.Proofs.YtbfogieeiobpdaaGreatDoor.S x.path), .bool x.kids, .bool x.once] 96))
  obtain ⟨ss, p, k, o⟩ := x
  by_cases h : ss = sess
  · subst h
    go_enter Tryz.func89, Tryz.ntmps89
    go_upto_region 1 with fail
    have S1 := S.box #[.int .i64 ss, .string (Go.Proofs.YtbfogieeiobpdaaGreatDoor.S p), .bool k, .bool o] 96 rfl
    generalize w.alloc (.cells #[.int .i64 ss, .string (Go.Proofs.YtbfogieeiobpdaaGreatDoor.S p), .bool k, .bool o] 96) = wB at *
    generalize w.heap.size = xb at *
    have x0 := S1.cell 0 _ rfl
    have x1 := S1.cell 1 _ rfl
    have x2 := S1.cell 2 _ rfl
    have x3 := S1.cell 3 _ rfl
    have c0 := S1.p1.cell 0 _ rfl
    clear S1
    go_wp2_with fail
    go_ret
    exact ⟨by simp, HK.out⟩
  · have hb : (ss == sess) = false := by simpa using h
    rw [show decide ((⟨ss, p, k, o⟩ : WatT).session = sess) = false from by simpa using h]
    go_enter Tryz.func89, Tryz.ntmps89
    go_upto_region 1 with fail
    have S1 := S.box #[.int .i64 ss, .string (Go.Proofs.YtbfogieeiobpdaaGreatDoor.S p), .bool k, .bool o] 96 rfl
    generalize w.alloc (.cells #[.int .i64 ss, .string (Go.Proofs.YtbfogieeiobpdaaGreatDoor.S p), .bool k, .bool o] 96) = wB at *
    generalize w.heap.size = xb at *
    have x0 := S1.cell 0 _ rfl
    have x1 := S1.cell 1 _ rfl
    have x2 := S1.cell 2 _ rfl
    have x3 := S1.cell 3 _ rfl
    have c0 := S1.p1.cell 0 _ rfl
    clear S1
    go_wp2_with fail
    go_ret
    exact ⟨by simp, HK.out⟩

set_option maxRecDepth 100000 in
theorem drop2_watch {g w : World} {L : List Asn} (x : EvT) (sess : Int) {sb : Nat} (S : Sat g w (cellsA sb 3 #[.int .i64 sess] :: L)) :
    Calls Tryz.prog 90 #[evV x, ptr sb] w fun e w' => e = .returned (.bool (decide (x.session = sess))) ∧ Keeps (fun _ => False) w w' := by
  have HK := hide ((Keeps.refl (fun _ => False) w).alloc (.cells #[.int .i64 x.session, .int .i64 x.no, .string (Go.Proofs.YtbfogieeiobpdaaGreatDoor.S x.path), .int .i64 x.what, .int .i64 x.when_] 74))
  obtain ⟨ss, n, p, k, o⟩ := x
  by_cases h : ss = sess
  · subst h
    go_enter Tryz.func90, Tryz.ntmps90
    go_upto_region 1 with fail
    have S1 := S.box #[.int .i64 ss, .int .i64 n, .string (Go.Proofs.YtbfogieeiobpdaaGreatDoor.S p), .int .i64 k, .int .i64 o] 74 rfl
    generalize w.alloc (.cells #[.int .i64 ss, .int .i64 n, .string (Go.Proofs.YtbfogieeiobpdaaGreatDoor.S p), .int .i64 k, .int .i64 o] 74) = wB at *
    generalize w.heap.size = xb at *
    have x0 := S1.cell 0 _ rfl
    have x1 := S1.cell 1 _ rfl
    have x2 := S1.cell 2 _ rfl
    have x3 := S1.cell 3 _ rfl
    have x4 := S1.cell 4 _ rfl
    have c0 := S1.p1.cell 0 _ rfl
    clear S1
    go_wp2_with fail
    go_ret
    exact ⟨by simp, HK.out⟩
  · have hb : (ss == sess) = false := by simpa using h
    rw [show decide ((⟨ss, n, p, k, o⟩ : EvT).session = sess) = false from by simpa using h]
    go_enter Tryz.func90, Tryz.ntmps90
    go_upto_region 1 with fail
    have S1 := S.box #[.int .i64 ss, .int .i64 n, .string (Go.Proofs.YtbfogieeiobpdaaGreatDoor.S p), .int .i64 k, .int .i64 o] 74 rfl
    generalize w.alloc (.cells #[.int .i64 ss, .int .i64 n, .string (Go.Proofs.YtbfogieeiobpdaaGreatDoor.S p), .int .i64 k, .int .i64 o] 74) = wB at *
    generalize w.heap.size = xb at *
    have x0 := S1.cell 0 _ rfl
    have x1 := S1.cell 1 _ rfl
    have x2 := S1.cell 2 _ rfl
    have x3 := S1.cell 3 _ rfl
    have x4 := S1.cell 4 _ rfl
    have c0 := S1.p1.cell 0 _ rfl
    clear S1
    go_wp2_with fail
    go_ret
    exact ⟨by simp, HK.out⟩

set_option maxRecDepth 100000 in
theorem noted1_watch {g w : World} {L : List Asn} (x : EvT) (sess no : Int) {sb nb : Nat} (S : Sat g w (cellsA sb 3 #[.int .i64 sess] :: cellsA nb 3 #[.int .i64 no] :: L)) :
    Calls Tryz.prog 88 #[evV x, ptr sb, ptr nb] w fun e w' => e = .returned (.bool (decide (x.session = sess ∧ x.no ≤ no))) ∧ Keeps (fun _ => False) w w' := by
  have HK := hide ((Keeps.refl (fun _ => False) w).alloc (.cells #[.int .i64 x.session, .int .i64 x.no, .string (Go.Proofs.YtbfogieeiobpdaaGreatDoor.S x.path), .int .i64 x.what, .int .i64 x.when_] 74))
  obtain ⟨ss, n, p, k, o⟩ := x
  by_cases h : ss = sess
  · subst h
    by_cases h2 : n ≤ no
    · rw [show decide ((⟨ss, n, p, k, o⟩ : EvT).session = ss ∧ (⟨ss, n, p, k, o⟩ : EvT).no ≤ no) = true from by simpa using h2]
      go_enter Tryz.func88, Tryz.ntmps88
      go_upto_region 1 with fail
      have S1 := S.box #[.int .i64 ss, .int .i64 n, .string (Go.Proofs.YtbfogieeiobpdaaGreatDoor.S p), .int .i64 k, .int .i64 o] 74 rfl
      generalize w.alloc (.cells #[.int .i64 ss, .int .i64 n, .string (Go.Proofs.YtbfogieeiobpdaaGreatDoor.S p), .int .i64 k, .int .i64 o] 74) = wB at *
      generalize w.heap.size = xb at *
      have x0 := S1.cell 0 _ rfl
      have x1 := S1.cell 1 _ rfl
      have x2 := S1.cell 2 _ rfl
      have x3 := S1.cell 3 _ rfl
      have x4 := S1.cell 4 _ rfl
      have c0 := S1.p1.cell 0 _ rfl
      have c1 := S1.p2.cell 0 _ rfl
      clear S1
      go_wp2_with fail
      go_ret
      exact ⟨by simp, HK.out⟩
    · rw [show decide ((⟨ss, n, p, k, o⟩ : EvT).session = ss ∧ (⟨ss, n, p, k, o⟩ : EvT).no ≤ no) = false from by simpa using h2]
      go_enter Tryz.func88, Tryz.ntmps88
      go_upto_region 1 with fail
      have S1 := S.box #[.int .i64 ss, .int .i64 n, .string (Go.Proofs.YtbfogieeiobpdaaGreatDoor.S p), .int .i64 k, .int .i64 o] 74 rfl
      generalize w.alloc (.cells #[.int .i64 ss, .int .i64 n, .string (Go.Proofs.YtbfogieeiobpdaaGreatDoor.S p), .int .i64 k, .int .i64 o] 74) = wB at *
      generalize w.heap.size = xb at *
      have x0 := S1.cell 0 _ rfl
      have x1 := S1.cell 1 _ rfl
      have x2 := S1.cell 2 _ rfl
      have x3 := S1.cell 3 _ rfl
      have x4 := S1.cell 4 _ rfl
      have c0 := S1.p1.cell 0 _ rfl
      have c1 := S1.p2.cell 0 _ rfl
      clear S1
      go_wp2_with fail
      go_ret
      exact ⟨by simp, HK.out⟩
  · have hb : (ss == sess) = false := by simpa using h
    rw [show decide ((⟨ss, n, p, k, o⟩ : EvT).session = sess ∧ (⟨ss, n, p, k, o⟩ : EvT).no ≤ no) = false from by simp [h]]
    go_enter Tryz.func88, Tryz.ntmps88
    go_upto_region 1 with fail
    have S1 := S.box #[.int .i64 ss, .int .i64 n, .string (Go.Proofs.YtbfogieeiobpdaaGreatDoor.S p), .int .i64 k, .int .i64 o] 74 rfl
    generalize w.alloc (.cells #[.int .i64 ss, .int .i64 n, .string (Go.Proofs.YtbfogieeiobpdaaGreatDoor.S p), .int .i64 k, .int .i64 o] 74) = wB at *
    generalize w.heap.size = xb at *
    have x0 := S1.cell 0 _ rfl
    have x1 := S1.cell 1 _ rfl
    have x2 := S1.cell 2 _ rfl
    have x3 := S1.cell 3 _ rfl
    have x4 := S1.cell 4 _ rfl
    have c0 := S1.p1.cell 0 _ rfl
    have c1 := S1.p2.cell 0 _ rfl
    clear S1
    go_wp2_with fail
    go_ret
    exact ⟨by simp, HK.out⟩

end Go.Proofs.YtbfogieeiobpdaaGreatDoor
