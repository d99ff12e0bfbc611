/- The law SessActs, walked. No condition. -/
import Derived.Test.YtcnehacblodiaaaModelAct
import Derived.Test.YtcnehacblodiaaaShows
import Derived.Test.YtcnehacblodiaaaNilT
set_option linter.unusedVariables false
namespace Go.Proofs.Ytcnehacblodiaaa
open Go.RowKit

theorem atF_ge (l : Tab) (id : Int) : decide (0 ≤ atF l id) = decide (id ∈ keys l) := by
  by_cases h : id ∈ keys l
  · obtain ⟨k, s, e, _⟩ := atF_some h
    rw [e]; simp [h]
  · rw [atF_none h]; simp [h]
theorem hib_of {l m : Tab} (h : Sync l m) {id i : Int} {b : Bool} (hi : atF l id = i) (hb : decide (id ∈ keys m) = b) : decide (0 ≤ i) = b := by
  rw [← hi, ← hb, atF_ge]
  exact decide_eq_decide.2 (h.mem id).symm
/-- an act of both in step: it answers true, and they stay in step; whether there is one, by both -/
theorem s_step {g w : World} {L : List Asn} {t mb mp : Nat} {A : Option Addr} {cap : Nat} {l m : Tab} (S : Sat g w (mboxA mp l A cap :: mrowA l A cap :: boxA t mb :: tabA mb m :: L)) (h : Sync l m) (ak id req : Int) (ans : List UInt8) (ha : ans.length ≤ 9223372036854775807) :
    Calls Try.prog 14 #[ptr mp, ptr t, .agg #[.int .i64 ak, .int .i64 id, .int .i64 req, .string (Go.Proofs.Ytcnehacblodiaaa.S ans)]] w fun e w' => e = .returned (.bool true) ∧ ∃ (l' m' : Tab) (A' : Option Addr) (cap' : Nat), Sync l' m' ∧ Sat g w' (mboxA mp l' A' cap' :: mrowA l' A' cap' :: boxA t mb :: tabA mb m' :: L) := by
  refine (s_do S h.mod.len ak id req ans ha).mono ?_
  rintro e w' ⟨kd, A', c', rfl, S'⟩
  rw [h.doB]
  exact ⟨rfl, _, _, _, _, h.do_ kd id req ans, S'⟩
theorem s_hasb {g w : World} {L : List Asn} {t mb : Nat} {m : Tab} (S : Sat g w (boxA t mb :: tabA mb m :: L)) (id : Int) {b : Bool} (hb : decide (id ∈ keys m) = b) :
    Calls Try.prog 10 #[ptr t, .int .i64 id] w fun e w' => e = .returned (.bool b) ∧ Sat g w' (boxA t mb :: tabA mb m :: L) := by
  rw [← hb]
  exact s_has S id
theorem s_at {g w : World} {L : List Asn} {mp : Nat} {l : Tab} {A : Option Addr} {cap : Nat} (S : Sat g w (mboxA mp l A cap :: mrowA l A cap :: L)) (id : Int) (hl : l.length ≤ 16) {i : Int} (hi : atF l id = i) :
    Calls Try.prog 16 #[ptr mp, .int .i64 id] w fun e w' => e = .returned (.int .i64 i) ∧ Sat g w' (mboxA mp l A cap :: mrowA l A cap :: L) := by
  rw [← hi]
  refine (at_model S id hl).mono ?_
  rintro e w' ⟨rfl, hk⟩
  exact ⟨rfl, S.keep hk⟩

set_option maxRecDepth 100000 in
set_option maxHeartbeats 4000000 in
theorem acts_walk (W : World) (A0 : Option Addr) (xs : List Act) (c : Nat) (h0 : Src W 4 A0 xs.length (xs.flatMap actC)) (hl : xs.length ≤ 9223372036854775807) (hg : ∀ a ∈ xs, a.2.2.2.length ≤ 9223372036854775807) :
    Calls Try.prog 4 #[.slice A0 xs.length c] W fun e w' => e = .returned (.bool true) ∧ Keeps (fun k => W.heap.size ≤ k) W w' := by
  have HG := hide hg
  clear hg
  go_enter Try.func4, Try.ntmps4
  go_wp2_with fail
  refine (head_sess W).mono ?_
  rintro e w0 ⟨rfl, hk0⟩
  have S0 := (Sat.start W).keep hk0
  clear hk0
  go_wp2_with fail
  refine (few_acts W w0 A0 xs c h0 S0.keeps hl HG.out).mono ?_
  cases hf : fewF xs
  · clear hf
    rintro e w1 ⟨rfl, hk1⟩
    have S1 := S0.keep hk1
    clear hk1
    go_wp2_with fail
    go_ret
    exact ⟨rfl, S1.keeps⟩
  · clear hf
    rintro e w1 ⟨rfl, hk1⟩
    have S1 := S0.keep hk1
    clear hk1
    go_wp2_with fail
    refine (s_new S1).mono ?_
    rintro e w2 ⟨t, mb, rfl, S2⟩
    go_wp2_with fail
    have S3 : Sat W (w2.alloc (.cells #[.slice none 0 0] 36)) (mboxA w2.heap.size [] none 0 :: mrowA [] none 0 :: boxA t mb :: tabA mb [] :: [oldA W]) := ((S2.box #[.slice none 0 0] 36 rfl).nilRow 54 3).p1
    clear S0 S1 S2
    generalize w2.alloc (.cells #[.slice none 0 0] 36) = w3 at *
    generalize w2.heap.size = mp at *
    go_loopw [21] (fun i wr => ∃ k : Nat, k ≤ xs.length ∧ i = .int .i64 k ∧ ∃ (l m : Tab) (A' : Option Addr) (cap' : Nat), Sync l m ∧ Sat W wr (mboxA mp l A' cap' :: mrowA l A' cap' :: boxA t mb :: tabA mb m :: [oldA W])) (fun i _ => xs.length - (RowKit.intOf i).toNat)
    case atStart => exact ⟨0, by omega, rfl, [], [], none, 0, Sync.nil, S3⟩
    case round =>
      obtain ⟨k, hk, rfl, l, m, A, cap, hy, S4⟩ := hrel
      clear S3
      have HY := hide hy
      clear hy
      by_cases hlt : k < xs.length
      · obtain ⟨ad, a, rfl, hx, d0, d1, d2, d3⟩ := acts_at (h0.keepB (by decide) (S4.keepsOf (by simp)) (fun k hk h => by omega)) hlt
        have hga := HG.out a (List.mem_of_getElem? hx)
        clear hx
        obtain ⟨ak, id, req, ans⟩ := a
        simp only at d0 d1 d2 d3 hga
        go_upto_region 10 with fail
        have S5 := (S4.box #[.int .i64 ak, .int .i64 id, .int .i64 req, .string (Go.Proofs.Ytcnehacblodiaaa.S ans)] 38 rfl).b4
        generalize wr.alloc (.cells #[.int .i64 ak, .int .i64 id, .int .i64 req, .string (Go.Proofs.Ytcnehacblodiaaa.S ans)] 38) = w5 at *
        generalize wr.heap.size = xb at *
        have x0 : w5.cell? ⟨xb, 0, none⟩ = some (.int .i64 ak) := S5.cell_of (t := 38) (cs := #[.int .i64 ak, .int .i64 id, .int .i64 req, .string (Go.Proofs.Ytcnehacblodiaaa.S ans)]) (by simp) 0 _ rfl; have x1 : w5.cell? ⟨xb, 1, none⟩ = some (.int .i64 id) := S5.cell_of (t := 38) (cs := #[.int .i64 ak, .int .i64 id, .int .i64 req, .string (Go.Proofs.Ytcnehacblodiaaa.S ans)]) (by simp) 1 _ rfl; have x2 : w5.cell? ⟨xb, 2, none⟩ = some (.int .i64 req) := S5.cell_of (t := 38) (cs := #[.int .i64 ak, .int .i64 id, .int .i64 req, .string (Go.Proofs.Ytcnehacblodiaaa.S ans)]) (by simp) 2 _ rfl; have x3 : w5.cell? ⟨xb, 3, none⟩ = some (.string (Go.Proofs.Ytcnehacblodiaaa.S ans)) := S5.cell_of (t := 38) (cs := #[.int .i64 ak, .int .i64 id, .int .i64 req, .string (Go.Proofs.Ytcnehacblodiaaa.S ans)]) (by simp) 3 _ rfl
        clear S4 d0 d1 d2 d3
        go_region_held3 (fun w' => w'.cell? ⟨xb, 0, none⟩ = some (.int .i64 ak) ∧ w'.cell? ⟨xb, 1, none⟩ = some (.int .i64 id) ∧ w'.cell? ⟨xb, 2, none⟩ = some (.int .i64 req) ∧ w'.cell? ⟨xb, 3, none⟩ = some (.string (Go.Proofs.Ytcnehacblodiaaa.S ans))) (go_keep) (first
          | (go_at_call 14; refine (s_step (g := W) (A := A) (cap := cap) (m := m) (mb := mb) (L := [cellsA xb 38 #[.int .i64 ak, .int .i64 id, .int .i64 req, .string (Go.Proofs.Ytcnehacblodiaaa.S ans)], oldA W]) (by (repeat (first | refine Sat.drew ?_ | refine Sat.drewN ?_ _)); exact S5) HY.out ak id req ans hga).mono ?_; rintro e w6 ⟨rfl, l6, m6, A6, c6, hy6, S6⟩; have HY6 := hide hy6; clear hy6; obtain ⟨i6, hi6⟩ : ∃ i, atF l6 id = i := ⟨_, rfl⟩; obtain ⟨b6, hb6⟩ : ∃ b, decide (id ∈ keys m6) = b := ⟨_, rfl⟩; have hib : decide (0 ≤ i6) = b6 := hib_of HY6.out hi6 hb6; have HI6 := hide hi6; have HB6 := hide hb6; clear hi6 hb6; have x0 : w6.cell? ⟨xb, 0, none⟩ = some (.int .i64 ak) := S6.cell_of (t := 38) (cs := #[.int .i64 ak, .int .i64 id, .int .i64 req, .string (Go.Proofs.Ytcnehacblodiaaa.S ans)]) (by simp) 0 _ rfl; have x1 : w6.cell? ⟨xb, 1, none⟩ = some (.int .i64 id) := S6.cell_of (t := 38) (cs := #[.int .i64 ak, .int .i64 id, .int .i64 req, .string (Go.Proofs.Ytcnehacblodiaaa.S ans)]) (by simp) 1 _ rfl; have x2 : w6.cell? ⟨xb, 2, none⟩ = some (.int .i64 req) := S6.cell_of (t := 38) (cs := #[.int .i64 ak, .int .i64 id, .int .i64 req, .string (Go.Proofs.Ytcnehacblodiaaa.S ans)]) (by simp) 2 _ rfl; have x3 : w6.cell? ⟨xb, 3, none⟩ = some (.string (Go.Proofs.Ytcnehacblodiaaa.S ans)) := S6.cell_of (t := 38) (cs := #[.int .i64 ak, .int .i64 id, .int .i64 req, .string (Go.Proofs.Ytcnehacblodiaaa.S ans)]) (by simp) 3 _ rfl)
          | (go_at_call 15; refine (s_shows (g := W) (L := [cellsA xb 38 #[.int .i64 ak, .int .i64 id, .int .i64 req, .string (Go.Proofs.Ytcnehacblodiaaa.S ans)], oldA W]) (by (repeat (first | refine Sat.drew ?_ | refine Sat.drewN ?_ _)); exact S6) HY6.out).mono ?_; rintro e w7 ⟨rfl, S7⟩; have x0 : w7.cell? ⟨xb, 0, none⟩ = some (.int .i64 ak) := S7.cell_of (t := 38) (cs := #[.int .i64 ak, .int .i64 id, .int .i64 req, .string (Go.Proofs.Ytcnehacblodiaaa.S ans)]) (by simp) 0 _ rfl; have x1 : w7.cell? ⟨xb, 1, none⟩ = some (.int .i64 id) := S7.cell_of (t := 38) (cs := #[.int .i64 ak, .int .i64 id, .int .i64 req, .string (Go.Proofs.Ytcnehacblodiaaa.S ans)]) (by simp) 1 _ rfl; have x2 : w7.cell? ⟨xb, 2, none⟩ = some (.int .i64 req) := S7.cell_of (t := 38) (cs := #[.int .i64 ak, .int .i64 id, .int .i64 req, .string (Go.Proofs.Ytcnehacblodiaaa.S ans)]) (by simp) 2 _ rfl; have x3 : w7.cell? ⟨xb, 3, none⟩ = some (.string (Go.Proofs.Ytcnehacblodiaaa.S ans)) := S7.cell_of (t := 38) (cs := #[.int .i64 ak, .int .i64 id, .int .i64 req, .string (Go.Proofs.Ytcnehacblodiaaa.S ans)]) (by simp) 3 _ rfl)
          | (go_at_call 10; refine (s_hasb (g := W) (mb := mb) (m := m6) (L := [mboxA mp l6 A6 c6, mrowA l6 A6 c6, cellsA xb 38 #[.int .i64 ak, .int .i64 id, .int .i64 req, .string (Go.Proofs.Ytcnehacblodiaaa.S ans)], oldA W]) (by (repeat (first | refine Sat.drew ?_ | refine Sat.drewN ?_ _)); exact S7.p3.p3) id HB6.out).mono ?_; rintro e w8 ⟨rfl, S8'⟩; have S8 := S8'.p3.p3; clear S8'; have x0 : w8.cell? ⟨xb, 0, none⟩ = some (.int .i64 ak) := S8.cell_of (t := 38) (cs := #[.int .i64 ak, .int .i64 id, .int .i64 req, .string (Go.Proofs.Ytcnehacblodiaaa.S ans)]) (by simp) 0 _ rfl; have x1 : w8.cell? ⟨xb, 1, none⟩ = some (.int .i64 id) := S8.cell_of (t := 38) (cs := #[.int .i64 ak, .int .i64 id, .int .i64 req, .string (Go.Proofs.Ytcnehacblodiaaa.S ans)]) (by simp) 1 _ rfl; have x2 : w8.cell? ⟨xb, 2, none⟩ = some (.int .i64 req) := S8.cell_of (t := 38) (cs := #[.int .i64 ak, .int .i64 id, .int .i64 req, .string (Go.Proofs.Ytcnehacblodiaaa.S ans)]) (by simp) 2 _ rfl; have x3 : w8.cell? ⟨xb, 3, none⟩ = some (.string (Go.Proofs.Ytcnehacblodiaaa.S ans)) := S8.cell_of (t := 38) (cs := #[.int .i64 ak, .int .i64 id, .int .i64 req, .string (Go.Proofs.Ytcnehacblodiaaa.S ans)]) (by simp) 3 _ rfl)
          | (go_at_call 16; refine (s_at (g := W) (L := [boxA t mb, tabA mb m6, cellsA xb 38 #[.int .i64 ak, .int .i64 id, .int .i64 req, .string (Go.Proofs.Ytcnehacblodiaaa.S ans)], oldA W]) (by (repeat (first | refine Sat.drew ?_ | refine Sat.drewN ?_ _)); exact S8) id HY6.out.mod.len HI6.out).mono ?_; rintro e w9 ⟨rfl, S9⟩; have x0 : w9.cell? ⟨xb, 0, none⟩ = some (.int .i64 ak) := S9.cell_of (t := 38) (cs := #[.int .i64 ak, .int .i64 id, .int .i64 req, .string (Go.Proofs.Ytcnehacblodiaaa.S ans)]) (by simp) 0 _ rfl; have x1 : w9.cell? ⟨xb, 1, none⟩ = some (.int .i64 id) := S9.cell_of (t := 38) (cs := #[.int .i64 ak, .int .i64 id, .int .i64 req, .string (Go.Proofs.Ytcnehacblodiaaa.S ans)]) (by simp) 1 _ rfl; have x2 : w9.cell? ⟨xb, 2, none⟩ = some (.int .i64 req) := S9.cell_of (t := 38) (cs := #[.int .i64 ak, .int .i64 id, .int .i64 req, .string (Go.Proofs.Ytcnehacblodiaaa.S ans)]) (by simp) 2 _ rfl; have x3 : w9.cell? ⟨xb, 3, none⟩ = some (.string (Go.Proofs.Ytcnehacblodiaaa.S ans)) := S9.cell_of (t := 38) (cs := #[.int .i64 ak, .int .i64 id, .int .i64 req, .string (Go.Proofs.Ytcnehacblodiaaa.S ans)]) (by simp) 3 _ rfl))
        all_goals
          have e9 : (b6 != b6) = false := by simp
          go_wp2_with fail
          go_roundw
          case rel => exact ⟨k + 1, by omega, by go_num, l6, m6, A6, c6, HY6.out, S9.p4.drop⟩
          case measure => simp [RowKit.intOf]; omega
      · obtain rfl : k = xs.length := by omega
        go_wp2_with fail
        refine (seen_nil _ 1 1).mono ?_
        rintro e w5 ⟨rfl, rfl⟩
        go_wp2_with fail
        refine (open_nil _ 1).mono ?_
        rintro e w5 ⟨rfl, rfl⟩
        go_wp2_with fail
        refine (has_nil _ 1).mono ?_
        rintro e w5 ⟨rfl, rfl⟩
        go_wp2_with fail
        refine (close_nil _ 1).mono ?_
        rintro e w5 ⟨rfl, rfl⟩
        go_wp2_with fail
        refine (keep_nil _ 1 1 _).mono ?_
        rintro e w5 ⟨rfl, rfl⟩
        go_wp2_with fail
        refine (all_nil _).mono ?_
        rintro e w5 ⟨rfl, rfl⟩
        go_wp2_with fail
        refine (clone_nil S4).mono ?_
        rintro e w5 ⟨t2, mb2, rfl, S5⟩
        go_wp2_with fail
        refine (s_all S5 (by simp [keys]) (by simp)).mono ?_
        rintro e w6 ⟨B, cb, rfl, S6⟩
        go_wp2_with fail
        go_ret
        exact ⟨rfl, S6.keepsOf (by simp)⟩

end Go.Proofs.Ytcnehacblodiaaa
