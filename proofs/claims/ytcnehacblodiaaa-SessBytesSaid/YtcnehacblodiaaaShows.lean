/- The statements' own model of a table of sessions: it shows the table's sessions. No condition. -/
import Derived.Test.YtcnehacblodiaaaSync
set_option linter.unusedVariables false
namespace Go.Proofs.Ytcnehacblodiaaa
open Go.RowKit

theorem Sync.seen_at {l m : Tab} (h : Sync l m) {k : Nat} {id req : Int} {a : List UInt8} (hk : l[k]? = some (id, (req, a))) (q : Int) (h1 : 1 ≤ q) (h2 : q ≤ 281474976710655) :
    seenF m id q = if q < req then ([], false, 18) else if q = req then (a, true, 0) else ([], false, 0) := by
  unfold seenF
  rw [h.get, nodup_mget h.mod.nodup hk]
  simp only
  rw [if_neg (by omega)]

theorem Src.cellAt {w : World} {ad : Addr} {n : Nat} {xs : List Value} (h : Src w 1 (some ad) n xs) {k : Nat} {u : Value} (hu : xs[k]? = some u) : w.cell? (ad.add k) = some u := by
  have hk := (List.getElem?_eq_some_iff.1 hu).1
  obtain ⟨ad', e, h3⟩ := h.2 (by have := h.1; omega)
  cases e
  exact h3 k u hu

set_option maxRecDepth 100000 in
set_option maxHeartbeats 4000000 in
theorem s_shows {g w : World} {L : List Asn} {t mb mp : Nat} {A : Option Addr} {cap : Nat} {l m : Tab} (S : Sat g w (mboxA mp l A cap :: mrowA l A cap :: boxA t mb :: tabA mb m :: L)) (h : Sync l m) :
    Calls Try.prog 15 #[ptr mp, ptr t] w fun e w' => e = .returned (.bool true) ∧ Sat g w' (mboxA mp l A cap :: mrowA l A cap :: boxA t mb :: tabA mb m :: L) := by
  have HY := hide h
  have hl := h.mod.len
  have hsz := h.size
  clear h
  go_enter Try.func15, Try.ntmps15
  go_wp2_with fail
  refine (s_all S.p3.p3 HY.out.ok (by omega)).mono ?_
  rintro e w1 ⟨B, cb, rfl, S1⟩
  rw [HY.out.keys] at S1
  have m0 : w1.cell? ⟨mp, 0, none⟩ = some (.slice A l.length cap) := S1.p3.cell 0 _ rfl
  go_wp2_with fail
  clear m0
  go_loopw [26] (fun i wr => ∃ k : Nat, k ≤ l.length ∧ i = .int .i64 k ∧ Sat g wr (rowA 3 1 (.slice B m.length cb) m.length (Is (keys l)) :: boxA t mb :: tabA mb m :: mboxA mp l A cap :: mrowA l A cap :: L)) (fun i _ => l.length - (RowKit.intOf i).toNat)
  case atStart => exact ⟨0, by omega, rfl, S1⟩
  case round =>
    obtain ⟨k, hk, rfl, S2⟩ := hrel
    clear S1 S
    by_cases hlt : k < l.length
    · obtain ⟨ad, p, rfl, hx, d0, d1, d2⟩ := rowE_at S2.p4.srcOf hlt
      have hlm : k < m.length := by omega
      obtain ⟨bd, u, rfl, hu, _⟩ := S2.srcOf.at_ hlm
      obtain ⟨pid, req, ans⟩ := p
      simp only at d0 d1 d2
      have hu2 : u = .int .i64 pid := by
        have e1 : (Is (keys l))[k]? = some (.int .i64 pid) := by simp [Is, keys, hx]
        rw [e1] at hu
        injection hu with hu
        exact hu.symm
      subst hu2
      have HU := hide hu
      have HX := hide hx
      obtain ⟨r1, r2, r3, r4, r5, r6⟩ := HY.out.mod.lo _ (List.mem_of_getElem? hx)
      simp only at r1 r2 r3 r4 r5 r6
      have hmem : decide (pid ∈ keys m) = true := by
        rw [decide_eq_true_eq, HY.out.mem]
        exact List.mem_map.2 ⟨_, List.mem_of_getElem? hx, rfl⟩
      have HH : Hid (∀ (w' : World) (L' : List Asn), Sat g w' (boxA t mb :: tabA mb m :: L') → Calls Try.prog 10 #[ptr t, .int .i64 pid] w' fun e w2 => e = .returned (.bool true) ∧ Sat g w2 (boxA t mb :: tabA mb m :: L')) := fun w' L' S' => by
        have := s_has S' pid
        rw [hmem] at this
        exact this
      clear hx hu hmem
      have hk0 : (0 : Int) ≤ (k : Int) := by omega
      have hk1 : (k : Int) < (m.length : Int) := by omega
      by_cases hr : req = 0
      · subst hr
        obtain rfl := r5 rfl
        have hs : seenF m pid 1 = ([], false, 0) := by rw [HY.out.seen_at HX.out 1 (by decide) (by decide)]; rfl
        have HS := hide hs
        clear hs r5
        go_wp2_with fail
        have S3 := S2.box #[.int .i64 pid, .int .i64 0, .string (Go.Proofs.Ytcnehacblodiaaa.S [])] 54 rfl
        refine (s_seen (S3.p3.p3) pid 1).mono ?_
        rw [HS.out]
        rintro e w4 ⟨rfl, S4⟩
        generalize wr.heap.size = xb at *
        have x0 : w4.cell? ⟨xb, 0, none⟩ = some (.int .i64 pid) := S4.cell_of (t := 54) (cs := #[.int .i64 pid, .int .i64 0, .string (Go.Proofs.Ytcnehacblodiaaa.S [])]) (by simp) 0 _ rfl
        have x1 : w4.cell? ⟨xb, 1, none⟩ = some (.int .i64 0) := S4.cell_of (t := 54) (cs := #[.int .i64 pid, .int .i64 0, .string (Go.Proofs.Ytcnehacblodiaaa.S [])]) (by simp) 1 _ rfl
        have x2 : w4.cell? ⟨xb, 2, none⟩ = some (.string (Go.Proofs.Ytcnehacblodiaaa.S [])) := S4.cell_of (t := 54) (cs := #[.int .i64 pid, .int .i64 0, .string (Go.Proofs.Ytcnehacblodiaaa.S [])]) (by simp) 2 _ rfl
        have i0 : w4.cell? (bd.add k) = some (.int .i64 pid) := S4.p3.srcOf.cellAt HU.out
        clear S2 S3 d0 d1 d2
        go_upto_region 8 with fail
        go_region_held3 (fun w' => w'.cell? ⟨xb, 0, none⟩ = some (.int .i64 pid) ∧ w'.cell? ⟨xb, 1, none⟩ = some (.int .i64 0) ∧ w'.cell? ⟨xb, 2, none⟩ = some (.string (Go.Proofs.Ytcnehacblodiaaa.S [])) ∧ w'.cell? (bd.add k) = some (.int .i64 pid)) (go_keep) (first | (go_at_call 10; refine (HH.out _ _ (by (repeat (first | refine Sat.drew ?_ | refine Sat.drewN ?_ _)); exact S4)).mono ?_; rintro e w5 ⟨rfl, S5⟩; have x0 : w5.cell? ⟨xb, 0, none⟩ = some (.int .i64 pid) := S5.cell_of (t := 54) (cs := #[.int .i64 pid, .int .i64 0, .string (Go.Proofs.Ytcnehacblodiaaa.S [])]) (by simp) 0 _ rfl; have x1 : w5.cell? ⟨xb, 1, none⟩ = some (.int .i64 0) := S5.cell_of (t := 54) (cs := #[.int .i64 pid, .int .i64 0, .string (Go.Proofs.Ytcnehacblodiaaa.S [])]) (by simp) 1 _ rfl; have x2 : w5.cell? ⟨xb, 2, none⟩ = some (.string (Go.Proofs.Ytcnehacblodiaaa.S [])) := S5.cell_of (t := 54) (cs := #[.int .i64 pid, .int .i64 0, .string (Go.Proofs.Ytcnehacblodiaaa.S [])]) (by simp) 2 _ rfl; have i0 : w5.cell? (bd.add k) = some (.int .i64 pid) := S5.p3.srcOf.cellAt HU.out))
        all_goals
          go_wp2_with fail
          go_roundw
          case rel => exact ⟨k + 1, by omega, by go_num, (S5.p2.drop).p2⟩
          case measure => simp [RowKit.intOf]; omega
      · have hrb : (req == 0) = false := by simpa using hr
        have hr1 : 1 ≤ req := by omega
        have hmx : max req 1 = req := by omega
        have hpos : (0 : Int) < req := by omega
        have hpd : decide ((0 : Int) < req) = true := by simpa using hpos
        have hs : seenF m pid req = (ans, true, 0) := by rw [HY.out.seen_at HX.out req hr1 r4, if_neg (by omega), if_pos rfl]
        have HS := hide hs
        clear hs r5 hr
        go_wp2_with fail
        have S3 := S2.box #[.int .i64 pid, .int .i64 req, .string (Go.Proofs.Ytcnehacblodiaaa.S ans)] 54 rfl
        refine (s_seen (S3.p3.p3) pid req).mono ?_
        rw [HS.out]
        rintro e w4 ⟨rfl, S4⟩
        generalize wr.heap.size = xb at *
        have x0 : w4.cell? ⟨xb, 0, none⟩ = some (.int .i64 pid) := S4.cell_of (t := 54) (cs := #[.int .i64 pid, .int .i64 req, .string (Go.Proofs.Ytcnehacblodiaaa.S ans)]) (by simp) 0 _ rfl
        have x1 : w4.cell? ⟨xb, 1, none⟩ = some (.int .i64 req) := S4.cell_of (t := 54) (cs := #[.int .i64 pid, .int .i64 req, .string (Go.Proofs.Ytcnehacblodiaaa.S ans)]) (by simp) 1 _ rfl
        have x2 : w4.cell? ⟨xb, 2, none⟩ = some (.string (Go.Proofs.Ytcnehacblodiaaa.S ans)) := S4.cell_of (t := 54) (cs := #[.int .i64 pid, .int .i64 req, .string (Go.Proofs.Ytcnehacblodiaaa.S ans)]) (by simp) 2 _ rfl
        have i0 : w4.cell? (bd.add k) = some (.int .i64 pid) := S4.p3.srcOf.cellAt HU.out
        clear S2 S3 d0 d1 d2
        go_upto_region 8 with fail
        go_region_held3 (fun w' => w'.cell? ⟨xb, 0, none⟩ = some (.int .i64 pid) ∧ w'.cell? ⟨xb, 1, none⟩ = some (.int .i64 req) ∧ w'.cell? ⟨xb, 2, none⟩ = some (.string (Go.Proofs.Ytcnehacblodiaaa.S ans)) ∧ w'.cell? (bd.add k) = some (.int .i64 pid)) (go_keep) (first | (go_at_call 10; refine (HH.out _ _ (by (repeat (first | refine Sat.drew ?_ | refine Sat.drewN ?_ _)); exact S4)).mono ?_; rintro e w5 ⟨rfl, S5⟩; have x0 : w5.cell? ⟨xb, 0, none⟩ = some (.int .i64 pid) := S5.cell_of (t := 54) (cs := #[.int .i64 pid, .int .i64 req, .string (Go.Proofs.Ytcnehacblodiaaa.S ans)]) (by simp) 0 _ rfl; have x1 : w5.cell? ⟨xb, 1, none⟩ = some (.int .i64 req) := S5.cell_of (t := 54) (cs := #[.int .i64 pid, .int .i64 req, .string (Go.Proofs.Ytcnehacblodiaaa.S ans)]) (by simp) 1 _ rfl; have x2 : w5.cell? ⟨xb, 2, none⟩ = some (.string (Go.Proofs.Ytcnehacblodiaaa.S ans)) := S5.cell_of (t := 54) (cs := #[.int .i64 pid, .int .i64 req, .string (Go.Proofs.Ytcnehacblodiaaa.S ans)]) (by simp) 2 _ rfl; have i0 : w5.cell? (bd.add k) = some (.int .i64 pid) := S5.p3.srcOf.cellAt HU.out))
        all_goals
          go_wp2_with fail
          go_roundw
          case rel => exact ⟨k + 1, by omega, by go_num, (S5.p2.drop).p2⟩
          case measure => simp [RowKit.intOf]; omega
    · obtain rfl : k = l.length := by omega
      go_wp2_with fail
      go_ret
      exact ⟨rfl, S2.drop.p3.p3⟩

end Go.Proofs.Ytcnehacblodiaaa
