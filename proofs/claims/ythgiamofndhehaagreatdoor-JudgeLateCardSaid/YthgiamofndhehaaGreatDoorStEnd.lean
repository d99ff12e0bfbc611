/- A session's end, walked. No condition. -/
import Derived.Test.YthgiamofndhehaaGreatDoorStA
import Derived.Deep.RegionHeld3
set_option linter.unusedVariables false
set_option linter.unusedSimpArgs false
namespace Go.Proofs.YthgiamofndhehaaGreatDoor
open Go.RowKit

theorem own_key {T : TreeT} {o : Int} {p : List UInt8} (h : p ∈ ownedF T o) : p ∈ keys T := (sortB_perm _).mem_iff.1 (List.mem_filter.1 h).1

set_option maxRecDepth 100000 in
set_option maxHeartbeats 16000000 in
theorem end_state {g w : World} {L : List Asn} {b : Nat} {s : StT} {M : TreeT} {n : Nat} (S0 : Sat g w (stateA b s :: L)) (hG : GL g) (hm : oldA g ∈ L) (hi : InvS s M n) (hn : n + M.length ≤ 1000) (id when_ : Int) :
    Calls Tryz.prog 91 #[ptr b, .int .i64 id, .int .i64 when_] w fun e w' => e = .returned (.tuple #[]) ∧ Sat g w' (stateA b (endF s id when_) :: L) := by
  have HG0 := hide hG
  obtain ⟨t, ts, bk, S1⟩ := S0.stateOpen
  have hmn := hi.tree.len
  have hml := hi.tree.len_eq
  have how := owned_tree S1.p1 hi.tree.pathsT (by omega) id
  have HE : Hid (endF s id when_ = ⟨(endL when_ (ownedF s.tree id).reverse s.tree s.book).1, (closeF s.tab id).2, dropF (endL when_ (ownedF s.tree id).reverse s.tree s.book).2 id, s.at_⟩) := hide rfl
  have HLN : Hid (∀ p ∈ ownedF s.tree id, p.length ≤ 60) := hide fun p hp => check_len (hi.tree.ok p (hi.tree.keysT.mem_iff.1 (own_key hp))).1
  have HI1 := hide hi.tree
  have HI2 := hide hi.book
  generalize endF s id when_ = EF at *
  have hol : (ownedF s.tree id).length ≤ 60 := by
    have h1 := List.length_filter_le (fun p => decide (((mget s.tree p).getD zN).owner = id ∧ id ≠ 0)) (pathsF s.tree)
    rw [pathsF_length] at h1
    have h2 : (ownedF s.tree id).length ≤ s.tree.length := h1
    omega
  generalize ownedF s.tree id = own at *
  have q0 := S1.cell 0 _ rfl
  clear S0 hG hi
  go_enter Tryz.func91, Tryz.ntmps91
  go_wp2_with fail
  refine how.mono ?_
  rintro e w1 ⟨v, rfl, S2⟩
  obtain ⟨A0, c0, rfl, -⟩ := S2.row.form
  have S3 : Sat g w1 (cellsA b 47 #[ptr t, ptr ts, ptr bk, .int .i64 s.at_] :: treeA t s.tree :: rowA 9 1 (.slice A0 own.length c0) own.length (Ss own) :: tblA ts s.tab :: bookA bk s.book :: L) := ((S2.bring 1).bring 2)
  clear S1 S2 q0 how
  go_wp2_with fail
  go_loopw [7] (fun i wr => ∃ z : Int, i = .int .i64 z ∧ ∃ j : Nat, z = (j : Int) - 1 ∧ j ≤ own.length ∧ ∃ (T' M' : TreeT) (n' : Nat) (B' : BookT), endL when_ own.reverse s.tree s.book = endL when_ (own.take j).reverse T' B' ∧ Mod T' M' n' ∧ InvW B' n' ∧ n' + M'.length ≤ n + M.length ∧ Sat g wr (cellsA b 47 #[ptr t, ptr ts, ptr bk, .int .i64 s.at_] :: treeA t T' :: rowA 9 1 (.slice A0 own.length c0) own.length (Ss own) :: tblA ts s.tab :: bookA bk B' :: L)) (fun i _ => (RowKit.intOf i + 1).toNat)
  case atStart => exact ⟨(own.length : Int) - 1, by go_num, own.length, rfl, Nat.le_refl _, s.tree, M, n, s.book, by rw [List.take_length], HI1.out, HI2.out, Nat.le_refl _, S3⟩
  case round =>
    obtain ⟨z, rfl, j, hz, hj, T', M', n', B', hE, hM', hB', hnn, S4⟩ := hrel
    clear S3
    cases j with
    | zero =>
      have hzn : ¬ ((0 : Int) ≤ z) := by omega
      have hzn2 : z < 0 := by omega
      have hzd : decide ((0 : Int) ≤ z) = false := by simp; omega
      have hes := hB'.es
      have hws := hB'.ws
      have q2 := S4.cell 2 _ rfl
      have HF : Hid (EF = ⟨T', (closeF s.tab id).2, dropF B' id, s.at_⟩) := hide (by rw [HE.out, hE]; rfl)
      clear hE hM' hB' HE
      go_wp2_with fail
      refine (drop_book (S4.bring 4) (by omega) (by omega) id).mono ?_
      rintro e w5 ⟨rfl, S5⟩
      have q1 := S5.p1.cell 1 _ rfl
      clear S4 q2
      go_wp2_with fail
      refine (tbl_close (S5.bring 4) id).mono ?_
      rintro e w6 ⟨rfl, S6⟩
      have HS := hide S6
      clear S5 S6 q1
      go_wp2_with fail
      go_end0
      refine ⟨rfl, ?_⟩
      rw [HF.out]
      exact Sat.stateShut (s := ⟨T', (closeF s.tab id).2, dropF B' id, s.at_⟩) ((((HS.out.bring 4).drop.bring 3).bring 3))
    | succ k =>
      obtain rfl : z = (k : Int) := by omega
      have hk0 : (0 : Int) ≤ (k : Int) := by omega
      have hk1 : (k : Int) < (own.length : Int) := by omega
      obtain ⟨ad, p, rfl, hp, d0⟩ := str_at S4.p2.srcT (show k < own.length by omega)
      have hpl := HLN.out p (List.mem_of_getElem? hp)
      have hts : (own.take (k + 1)).reverse = p :: (own.take k).reverse := by
        obtain ⟨hk, e⟩ := List.getElem?_eq_some_iff.1 hp
        rw [List.take_succ_eq_append_getElem hk, e]
        simp
      rw [hts] at hE
      have hlen := hM'.len_eq
      have hml2 := hM'.len
      have hes := hB'.es
      have hws := hB'.ws
      have hno := hB'.nos
      have HDEL : Hid (∀ (w' : World) (L' : List Asn), Sat g w' (treeA t T' :: L') → oldA g ∈ L' → Calls Tryz.prog 125 #[ptr t, .string (S p), .int .i64 (-1)] w' fun e w2 => e = .returned (.int .i64 (deleteF T' p (-1)).1) ∧ Sat g w2 (treeA t (deleteF T' p (-1)).2 :: L')) := hide fun w' L' S' h => delete_tree S' HG0.out h hM'.pathsT (by omega) p (-1) (by omega) (fun a ha => by have := hM'.at_ (by rw [← hM'.get]; exact ha); exact ⟨this.2.2.1, by have := this.2.2.2.1; omega⟩)
      have HFIRE : Hid (∀ (w' : World) (L' : List Asn), Sat g w' (bookA bk B' :: L') → Calls Tryz.prog 126 #[ptr bk, .string (S p), .int .i64 2, .int .i64 when_] w' fun e w2 => e = .returned (.tuple #[]) ∧ Sat g w2 (bookA bk (fireF B' p 2 when_) :: L')) := hide fun w' L' S' => fire_book S' (by omega) (by omega) (hno.mono (by omega)) p 2 when_ (by omega)
      have HM2 : Hid (((deleteF T' p (-1)).1 = 0 → ∃ M2, Mod (deleteF T' p (-1)).2 M2 (n' + 1) ∧ n' + 1 + M2.length ≤ n + M.length) ∧ ((deleteF T' p (-1)).1 ≠ 0 → (deleteF T' p (-1)).2 = T')) := hide ⟨fun h0 => by
        have h3 := (hM'.delete p (-1)).2
        have h4 := delete_len hM' h0
        have h6 := h3.len_eq
        exact ⟨_, h3, by omega⟩, fun h0 => delete_bad h0⟩
      have HB2 := hide (fire_inv hB' p 2 when_)
      have HB3 := hide hB'
      have HM3 := hide hM'
      have HE2 : Hid (endL when_ own.reverse s.tree s.book = if (deleteF T' p (-1)).1 = 0 then endL when_ (own.take k).reverse (deleteF T' p (-1)).2 (fireF B' p 2 when_) else endL when_ (own.take k).reverse (deleteF T' p (-1)).2 B') := hide (by rw [hE]; rfl)
      clear hE hts hM' hB' hno hes hws hlen hml2
      generalize deleteF T' p (-1) = D at *
      obtain ⟨d1, d2⟩ := D
      simp only at HDEL HM2 HE2
      have HX : Hid (∀ (w' : World) (L' : List Asn), Sat g w' L' → cellsA b 47 #[ptr t, ptr ts, ptr bk, .int .i64 s.at_] ∈ L' → rowA 9 1 (.slice (some ad) own.length c0) own.length (Ss own) ∈ L' → w'.cell? ⟨b, 0, none⟩ = some (ptr t) ∧ w'.cell? ⟨b, 2, none⟩ = some (ptr bk) ∧ w'.cell? (ad.add k) = some (.string (S p))) := hide fun w' L' S' h1 h2 => by
        refine ⟨S'.cell_of h1 0 _ rfl, S'.cell_of h1 2 _ rfl, ?_⟩
        obtain ⟨L2, S2⟩ := S'.mem_ h2
        obtain ⟨ad', p', e1, e2, e3⟩ := str_at S2.srcT (show k < own.length by omega)
        injection e1 with e1
        subst e1
        rw [hp] at e2
        injection e2 with e2
        subst e2
        exact e3
      obtain ⟨q0, q1, q2⟩ := HX.out _ _ S4 (by simp) (by simp)
      clear d0 hz
      go_upto_region 4 with fail
      go_region_held3 (fun v' => (v'.cell? ⟨b, 0, none⟩ = some (ptr t) ∧ v'.cell? ⟨b, 2, none⟩ = some (ptr bk) ∧ v'.cell? (ad.add k) = some (.string (S p)))) (first
        | (go_keep; done)
        | exact HX.out _ _ (Sat.keep S5 (by (repeat (first | exact Keeps.refl _ _ | refine Keeps.alloc ?_ _ | refine Keeps.drew ?_ | refine Keeps.drewN ?_ _)))) (by simp) (by simp)
        | exact HX.out _ _ (Sat.keep S4 (by (repeat (first | exact Keeps.refl _ _ | refine Keeps.alloc ?_ _ | refine Keeps.drew ?_ | refine Keeps.drewN ?_ _)))) (by simp) (by simp)) (first
        | (go_at_call 125; refine (HDEL.out _ _ (by (repeat (first | refine Sat.drew ?_ | refine Sat.drewN ?_ _)); exact S4.p1) (by simp [hm])).mono ?_; rintro e w5 ⟨rfl, S5⟩; obtain ⟨q0, q1, q2⟩ := HX.out _ _ S5 (by simp) (by simp)))
      all_goals
        clear S4 HDEL
        by_cases hd : d1 = 0
        · subst hd
          obtain ⟨M2, hM2, hn2⟩ := HM2.out.1 rfl
          go_upto_region 5 with fail
          go_region_held3 (fun v' => (v'.cell? ⟨b, 0, none⟩ = some (ptr t) ∧ v'.cell? ⟨b, 2, none⟩ = some (ptr bk) ∧ v'.cell? (ad.add k) = some (.string (S p)))) (first
            | (go_keep; done)
            | exact HX.out _ _ (Sat.keep S6 (by (repeat (first | exact Keeps.refl _ _ | refine Keeps.alloc ?_ _ | refine Keeps.drew ?_ | refine Keeps.drewN ?_ _)))) (by simp) (by simp)
            | exact HX.out _ _ (Sat.keep S5 (by (repeat (first | exact Keeps.refl _ _ | refine Keeps.alloc ?_ _ | refine Keeps.drew ?_ | refine Keeps.drewN ?_ _)))) (by simp) (by simp)) (first
            | (go_at_call 126; refine (HFIRE.out _ _ (by (repeat (first | refine Sat.drew ?_ | refine Sat.drewN ?_ _)); exact S5.bring 4)).mono ?_; rintro e w6 ⟨rfl, S6⟩; obtain ⟨q0, q1, q2⟩ := HX.out _ _ S6 (by simp) (by simp)))
          all_goals
            have S7 : Sat g w6 (cellsA b 47 #[ptr t, ptr ts, ptr bk, .int .i64 s.at_] :: treeA t d2 :: rowA 9 1 (.slice (some ad) own.length c0) own.length (Ss own) :: tblA ts s.tab :: bookA bk (fireF B' p 2 when_) :: L) := ((((S6.bring 4).bring 4).bring 3).bring 4)
            clear S5 S6 HX q0 q1 q2 HFIRE
            go_wp2_with fail
            go_roundw
            case rel => exact ⟨(k : Int) - 1, by go_num, k, rfl, by omega, d2, M2, n' + 1, fireF B' p 2 when_, by have := HE2.out; first | exact this | rwa [if_pos rfl] at this, hM2, HB2.out, hn2, S7⟩
            case measure => simp [RowKit.intOf]; try omega
        · have hd2 : (d1 == 0) = false := by simpa using hd
          obtain rfl := HM2.out.2 hd
          have S7 : Sat g w5 (cellsA b 47 #[ptr t, ptr ts, ptr bk, .int .i64 s.at_] :: treeA t d2 :: rowA 9 1 (.slice (some ad) own.length c0) own.length (Ss own) :: tblA ts s.tab :: bookA bk B' :: L) := S5.p1
          clear S5 HX q0 q1 q2 HFIRE
          go_wp2_with fail
          go_roundw
          case rel => exact ⟨(k : Int) - 1, by go_num, k, rfl, by omega, d2, M', n', B', by have := HE2.out; first | exact this | rwa [if_neg hd] at this, HM3.out, HB3.out, hnn, S7⟩
          case measure => simp [RowKit.intOf]; try omega
end Go.Proofs.YthgiamofndhehaaGreatDoor
