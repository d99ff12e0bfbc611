/- The statements of layer 9: an act's path; an act of a tree and of its model. No condition. -/
import Derived.Test.YtecpfnobnpddaaaGreatDoorTActs
import Derived.Test.YtecpfnobnpddaaaGreatDoorTModE
set_option linter.unusedVariables false
set_option linter.unusedSimpArgs false
namespace Go.Proofs.YtecpfnobnpddaaaGreatDoor
open Go.RowKit

def pathA (a : ActT) : List UInt8 := if a.raw = [] then madeP a.path else a.raw
theorem pathA_le (a : ActT) (h : a.path.length ≤ 12 ∧ a.data.length ≤ 200 ∧ a.raw.length ≤ 100) : (pathA a).length ≤ 1000 := by
  have := madeP_le a.path
  unfold pathA
  split <;> omega
set_option maxRecDepth 100000 in
theorem act_path (w : World) (a : ActT) (hs : Src w 1 a.pa a.path.length (Is a.path)) (hp : a.path.length ≤ 1000000) :
    Calls Tryz.prog 24 #[actTV a] w fun e w' => e = .returned (.string (S (pathA a))) ∧ Keeps (fun _ => False) w w' := by
  have HK := hide ((Keeps.refl (fun _ => False) w).alloc (.cells (actTA a) 54))
  have hs' := hs.keepB (by decide) HK.out (fun k hk h => h)
  have HMP : Hid (∀ w, Src w 1 a.pa a.path.length (Is a.path) → Calls Tryz.prog 40 #[.slice a.pa a.path.length a.pc] w fun e w' => e = .returned (.string (S (madeP a.path))) ∧ Keeps (fun _ => False) w w') := hide fun w h => made_path w a.pa a.path a.pc h hp
  obtain ⟨a0, a1, a2, xa, xc, xp, xr, xd, xs⟩ := a
  simp only at hs' HMP
  have S1 := (Sat.start w).box (actTA ⟨a0, a1, a2, xa, xc, xp, xr, xd, xs⟩) 54 rfl
  have HS' := hide hs'
  have HPA : Hid (pathA ⟨a0, a1, a2, xa, xc, xp, xr, xd, xs⟩ = if xr = [] then madeP xp else xr) := rfl
  generalize pathA ⟨a0, a1, a2, xa, xc, xp, xr, xd, xs⟩ = PA at *
  clear hs hs'
  go_enter Tryz.func24, Tryz.ntmps24
  go_upto_region 1 with fail
  generalize w.alloc (.cells (actTA ⟨a0, a1, a2, xa, xc, xp, xr, xd, xs⟩) 54) = w1 at *
  generalize w.heap.size = ab at *
  have c3 := S1.cell 3 _ rfl
  have c4 := S1.cell 4 _ rfl
  clear S1
  by_cases hr : xr = []
  · have e : PA = madeP xp := by rw [HPA.out, if_pos hr]
    subst hr e
    clear HPA
    go_wp2_with fail
    refine (HMP.out w1 HS'.out).mono ?_
    rintro e w2 ⟨rfl, hk2⟩
    have HK2 := hide (HK.out.trans' hk2)
    clear hk2
    go_wp2_with fail
    go_ret
    exact ⟨rfl, HK2.out⟩
  · have e : PA = xr := by rw [HPA.out, if_neg hr]
    subst e
    clear HPA
    have hrb : (PA != []) = true := by simpa using hr
    have hrb2 : (PA == []) = false := by simpa using hr
    go_wp2_with fail
    go_ret
    exact ⟨rfl, HK.out⟩

def kindA (k : Int) : Int := k % 18446744073709551616 % 6
theorem kindA_at (n : Int) : (IntKind.u64.wrap n).tmod 6 = kindA n := by
  have h : IntKind.u64.wrap n = n % 18446744073709551616 := by
    simp [IntKind.wrap, IntKind.signed, IntKind.bits]
  rw [h, Int.tmod_eq_emod_of_nonneg (by omega)]
  unfold kindA
  omega
theorem kindA_lt (n : Int) : 0 ≤ kindA n ∧ kindA n < 6 := by unfold kindA; omega
def ownA (a : ActT) : Int := bits .and .i64 a.owner 3
def verA (a : ActT) : Int := bits .and .i64 a.version 3 - 1
theorem own_le (a : ActT) : 0 ≤ ownA a ∧ ownA a ≤ 3 := and_le a.owner 3 (by decide)
theorem ver_le (a : ActT) : 0 ≤ bits .and .i64 a.version 3 ∧ bits .and .i64 a.version 3 ≤ 3 := and_le a.version 3 (by decide)

def ansT (T : TreeT) (a : ActT) (w : Int) : List UInt8 × Int × Int :=
  if kindA a.k ≤ 2 then ((createF T (pathA a) a.data (ownA a) w a.serial).1, 0, (createF T (pathA a) a.data (ownA a) w a.serial).2.1)
  else if kindA a.k = 3 then ([], (setF T (pathA a) a.data (verA a) w).1, (setF T (pathA a) a.data (verA a) w).2.1)
  else if kindA a.k = 4 then ([], 0, (deleteF T (pathA a) (verA a)).1) else ([], 0, (atF T (pathA a) (verA a)).2)
def ansM (T : TreeT) (a : ActT) (w : Int) : List UInt8 × Int × Int :=
  if kindA a.k ≤ 2 then ((createM T (pathA a) a.data (ownA a) w a.serial).1, 0, (createM T (pathA a) a.data (ownA a) w a.serial).2.1)
  else if kindA a.k = 3 then ([], (setF T (pathA a) a.data (verA a) w).1, (setF T (pathA a) a.data (verA a) w).2.1)
  else if kindA a.k = 4 then ([], 0, (deleteF T (pathA a) (verA a)).1) else ([], 0, (atF T (pathA a) (verA a)).2)
def doT (T : TreeT) (a : ActT) (w : Int) : TreeT :=
  if kindA a.k ≤ 2 then (createF T (pathA a) a.data (ownA a) w a.serial).2.2
  else if kindA a.k = 3 then (setF T (pathA a) a.data (verA a) w).2.2
  else if kindA a.k = 4 then (deleteF T (pathA a) (verA a)).2 else T
def doM (T : TreeT) (a : ActT) (w : Int) : TreeT :=
  if kindA a.k ≤ 2 then (createM T (pathA a) a.data (ownA a) w a.serial).2.2
  else if kindA a.k = 3 then (setF T (pathA a) a.data (verA a) w).2.2
  else if kindA a.k = 4 then (deleteF T (pathA a) (verA a)).2 else T
theorem Mod.do_ {T M : TreeT} {n : Nat} (h : Mod T M n) (hn : n < 1000) (a : ActT) (w : Int) (hw : 0 ≤ w ∧ w ≤ 1000) : ansT T a w = ansM M a w ∧ Mod (doT T a w) (doM M a w) (n + 1) := by
  unfold ansT ansM doT doM
  split
  · obtain ⟨h1, h2, h3⟩ := h.create hn (pathA a) a.data (ownA a) w a.serial (own_le a) hw
    exact ⟨by rw [h1, h2], h3⟩
  · split
    · obtain ⟨h1, h2, h3⟩ := h.set (pathA a) a.data (verA a) w hw
      exact ⟨by rw [h1, h2], h3⟩
    · split
      · obtain ⟨h1, h2⟩ := h.delete (pathA a) (verA a)
        exact ⟨by rw [h1], h2⟩
      · exact ⟨by rw [h.atF], h.le (Nat.le_succ n)⟩

set_option maxRecDepth 100000 in
set_option maxHeartbeats 16000000 in
theorem do_tree {g w : World} {L : List Asn} {b mb : Nat} {T M T2 M2 : TreeT} {n n2 : Nat} (S0 : Sat g w (treeA b T :: modA mb M2 :: L)) (hG : GL g) (hm : oldA g ∈ L) (h1 : Mod T M n) (h2 : Mod T2 M2 n2) (hn1 : n < 100) (hn2 : n2 < 100)
    (a : ActT) (hsrc : Src g 1 a.pa a.path.length (Is a.path)) (hsm : a.path.length ≤ 12 ∧ a.data.length ≤ 200 ∧ a.raw.length ≤ 100) (when_ : Int) :
    Calls Tryz.prog 22 #[ptr b, ptr mb, actTV a, .int .i64 when_] w fun e w' => e = .returned (.bool (decide (ansT T a when_ = ansM M2 a when_))) ∧ Sat g w' (treeA b (doT T a when_) :: modA mb (doM M2 a when_) :: L) := by
  have hpl := pathA_le a hsm
  have hlT : T.length ≤ 60 := by rw [h1.len_eq]; exact h1.len
  have hlM := h2.len
  obtain ⟨hsm1, hsm2, hsm3⟩ := hsm
  have HGL : Hid (∀ {w : World} {L' : List Asn}, Sat g w L' → oldA g ∈ L' → GL w) := fun S h => hG.at S h
  have HACT : Hid (∀ w, Src w 1 a.pa a.path.length (Is a.path) → Calls Tryz.prog 24 #[actTV a] w fun e w' => e = .returned (.string (S (pathA a))) ∧ Keeps (fun _ => False) w w') := hide fun w h => act_path w a h (by omega)
  have HSR := hide hsrc
  have HM := hide hm
  have HC : Hid (∀ {w : World} {L' : List Asn}, Sat g w (treeA b T :: L') → oldA g ∈ L' → Calls Tryz.prog 58 #[ptr b, .string (S (pathA a)), .string (S a.data), .int .i64 (ownA a), .int .i64 when_, .bool a.serial] w fun e w' =>
      e = .returned (.tuple #[.string (S (createF T (pathA a) a.data (ownA a) when_ a.serial).1), .int .i64 (createF T (pathA a) a.data (ownA a) when_ a.serial).2.1]) ∧ Sat g w' (treeA b (createF T (pathA a) a.data (ownA a) when_ a.serial).2.2 :: L')) :=
    hide fun S' hm => create_tree S' (hG.at S' (by simp [hm])) _ _ _ _ _ (by omega) (by omega) (by omega) (fun v hv => by
      rw [h1.get] at hv
      obtain ⟨q1, q2, q3, q4, q5, q6, _⟩ := h1.at_ hv
      exact ⟨q5, by omega, q3, by omega⟩)
  have HCM : Hid (∀ {w : World} {L' : List Asn}, Sat g w (modA mb M2 :: L') → oldA g ∈ L' → Calls Tryz.prog 59 #[ptr mb, .string (S (pathA a)), .string (S a.data), .int .i64 (ownA a), .int .i64 when_, .bool a.serial] w fun e w' =>
      e = .returned (.tuple #[.string (S (createM M2 (pathA a) a.data (ownA a) when_ a.serial).1), .int .i64 (createM M2 (pathA a) a.data (ownA a) when_ a.serial).2.1]) ∧ Sat g w' (modA mb (createM M2 (pathA a) a.data (ownA a) when_ a.serial).2.2 :: L')) :=
    hide fun S' hm => create_mod S' hG hm (by omega) h2.nodup _ _ _ _ _ (by omega) (by omega) (fun v hv => by
      obtain ⟨q1, q2, q3, q4, q5, q6, _⟩ := h2.at_ hv
      exact ⟨q5, by omega, q3, by omega⟩)
  have HS : Hid (∀ {w : World} {L' : List Asn}, Sat g w (treeA b T :: L') → oldA g ∈ L' → Calls Tryz.prog 60 #[ptr b, .string (S (pathA a)), .string (S a.data), .int .i64 (verA a), .int .i64 when_] w fun e w' =>
      e = .returned (.tuple #[.int .i64 (setF T (pathA a) a.data (verA a) when_).1, .int .i64 (setF T (pathA a) a.data (verA a) when_).2.1]) ∧ Sat g w' (treeA b (setF T (pathA a) a.data (verA a) when_).2.2 :: L')) :=
    hide fun S' hm => set_tree S' (hG.at S' (by simp [hm])) _ _ _ _ (by omega) (by omega) (by
      rw [h1.atF]
      have := h1.at_ver (pathA a) (verA a)
      omega)
  have HSM : Hid (∀ {w : World} {L' : List Asn}, Sat g w (modA mb M2 :: L') → oldA g ∈ L' → Calls Tryz.prog 61 #[ptr mb, .string (S (pathA a)), .string (S a.data), .int .i64 (verA a), .int .i64 when_] w fun e w' =>
      e = .returned (.tuple #[.int .i64 (setF M2 (pathA a) a.data (verA a) when_).1, .int .i64 (setF M2 (pathA a) a.data (verA a) when_).2.1]) ∧ Sat g w' (modA mb (setF M2 (pathA a) a.data (verA a) when_).2.2 :: L')) :=
    hide fun S' hm => set_mod S' (hG.at S' (by simp [hm])) (by omega) h2.nodup _ _ _ _ (by omega) (by omega) (by
      have := h2.at_ver (pathA a) (verA a)
      omega)
  have HD : Hid (∀ {w : World} {L' : List Asn}, Sat g w (treeA b T :: L') → oldA g ∈ L' → Calls Tryz.prog 62 #[ptr b, .string (S (pathA a)), .int .i64 (verA a)] w fun e w' =>
      e = .returned (.int .i64 (deleteF T (pathA a) (verA a)).1) ∧ Sat g w' (treeA b (deleteF T (pathA a) (verA a)).2 :: L')) :=
    hide fun S' hm => delete_tree S' hG hm h1.pathsT (by omega) _ _ (by omega) (fun v hv => by
      rw [h1.get] at hv
      obtain ⟨q1, q2, q3, q4, q5, q6, _⟩ := h1.at_ hv
      exact ⟨q3, by omega⟩)
  have HDM : Hid (∀ {w : World} {L' : List Asn}, Sat g w (modA mb M2 :: L') → oldA g ∈ L' → Calls Tryz.prog 63 #[ptr mb, .string (S (pathA a)), .int .i64 (verA a)] w fun e w' =>
      e = .returned (.int .i64 (deleteF M2 (pathA a) (verA a)).1) ∧ Sat g w' (modA mb (deleteF M2 (pathA a) (verA a)).2 :: L')) :=
    hide fun S' hm => delete_mod S' hG hm (by omega) h2.nodup h2.paths h2.closed _ _ (by omega) (fun v hv => by
      obtain ⟨q1, q2, q3, q4, q5, q6, _⟩ := h2.at_ hv
      exact ⟨q3, by omega⟩)
  have HK : Hid (∀ {w : World} {L' : List Asn}, Sat g w (treeA b T :: L') → oldA g ∈ L' → Calls Tryz.prog 64 #[ptr b, .string (S (pathA a)), .int .i64 (verA a)] w fun e w' =>
      e = .returned (.int .i64 (atF T (pathA a) (verA a)).2) ∧ Sat g w' (treeA b T :: L')) :=
    hide fun S' hm => check_tree S' (hG.at S' (by simp [hm])) _ _ (by omega)
  have HKM : Hid (∀ {w : World} {L' : List Asn}, Sat g w (modA mb M2 :: L') → oldA g ∈ L' → Calls Tryz.prog 65 #[ptr mb, .string (S (pathA a)), .int .i64 (verA a)] w fun e w' =>
      e = .returned (.int .i64 (atF M2 (pathA a) (verA a)).2) ∧ Sat g w' (modA mb M2 :: L')) :=
    hide fun S' hm => check_mod S' (hG.at S' (by simp [hm])) (by omega) _ _ (by omega)
  have hkk := kindA_at a.k
  obtain ⟨hk0, hk6⟩ := kindA_lt a.k
  have hver : bits .and .i64 a.version 3 - 1 = verA a := rfl
  obtain ⟨hv0, hv3⟩ := ver_le a
  have hown : bits .and .i64 a.owner 3 = ownA a := rfl
  obtain ⟨ho0, ho3⟩ := own_le a
  have HDT : Hid (doT T a when_ = if kindA a.k ≤ 2 then (createF T (pathA a) a.data (ownA a) when_ a.serial).2.2
    else if kindA a.k = 3 then (setF T (pathA a) a.data (verA a) when_).2.2
    else if kindA a.k = 4 then (deleteF T (pathA a) (verA a)).2 else T) := rfl
  have HDM2 : Hid (doM M2 a when_ = if kindA a.k ≤ 2 then (createM M2 (pathA a) a.data (ownA a) when_ a.serial).2.2
    else if kindA a.k = 3 then (setF M2 (pathA a) a.data (verA a) when_).2.2
    else if kindA a.k = 4 then (deleteF M2 (pathA a) (verA a)).2 else M2) := rfl
  have HAT : Hid (ansT T a when_ = if kindA a.k ≤ 2 then ((createF T (pathA a) a.data (ownA a) when_ a.serial).1, 0, (createF T (pathA a) a.data (ownA a) when_ a.serial).2.1)
    else if kindA a.k = 3 then ([], (setF T (pathA a) a.data (verA a) when_).1, (setF T (pathA a) a.data (verA a) when_).2.1)
    else if kindA a.k = 4 then ([], 0, (deleteF T (pathA a) (verA a)).1) else ([], 0, (atF T (pathA a) (verA a)).2)) := rfl
  have HAM : Hid (ansM M2 a when_ = if kindA a.k ≤ 2 then ((createM M2 (pathA a) a.data (ownA a) when_ a.serial).1, 0, (createM M2 (pathA a) a.data (ownA a) when_ a.serial).2.1)
    else if kindA a.k = 3 then ([], (setF M2 (pathA a) a.data (verA a) when_).1, (setF M2 (pathA a) a.data (verA a) when_).2.1)
    else if kindA a.k = 4 then ([], 0, (deleteF M2 (pathA a) (verA a)).1) else ([], 0, (atF M2 (pathA a) (verA a)).2)) := rfl
  generalize doT T a when_ = DT at *
  generalize doM M2 a when_ = DM at *
  generalize ansT T a when_ = AT at *
  generalize ansM M2 a when_ = AM at *
  generalize createF T (pathA a) a.data (ownA a) when_ a.serial = CF at *
  generalize createM M2 (pathA a) a.data (ownA a) when_ a.serial = CM at *
  generalize setF T (pathA a) a.data (verA a) when_ = SF at *
  generalize setF M2 (pathA a) a.data (verA a) when_ = SM at *
  generalize deleteF T (pathA a) (verA a) = DF at *
  generalize deleteF M2 (pathA a) (verA a) = DE at *
  generalize (atF T (pathA a) (verA a)).2 = KF at *
  generalize (atF M2 (pathA a) (verA a)).2 = KM at *
  generalize pathA a = sp at *
  generalize ownA a = ow at *
  generalize hvv : verA a = ve at *
  generalize hvb : bits .and .i64 a.version 3 = vb at *
  generalize kindA a.k = kk at *
  clear hsrc hm hG h1 h2
  obtain ⟨a0, a1, a2, xa, xc, xp, xr, xd, xs⟩ := a
  simp only at HSR HC HCM HS HSM hkk hown hvb hvv hsm1 hsm2 hsm3 HACT
  go_enter Tryz.func22, Tryz.ntmps22
  go_upto_region 1 with fail
  have S1 := S0.box (actTA ⟨a0, a1, a2, xa, xc, xp, xr, xd, xs⟩) 54 rfl
  generalize w.alloc (.cells (actTA ⟨a0, a1, a2, xa, xc, xp, xr, xd, xs⟩) 54) = w1 at *
  generalize w.heap.size = ab at *
  have c0 := S1.cell 0 _ rfl
  have c1 := S1.cell 1 _ rfl
  have c2 := S1.cell 2 _ rfl
  have c3 := S1.cell 3 _ rfl
  have c4 := S1.cell 4 _ rfl
  have c5 := S1.cell 5 _ rfl
  have c6 := S1.cell 6 _ rfl
  clear S0
  go_wp2_with fail
  refine (HACT.out _ (HSR.out.keepB (by decide) (S1.keepsOf (by simp [HM.out])) (fun k hk h => by omega))).mono ?_
  rintro e w2 ⟨rfl, hk2⟩
  have S2 := S1.keep hk2
  clear S1 c0 c1 c2 c3 c4 c5 c6 hk2 HACT HSR
  have c0 := S2.cell 0 _ rfl
  have c1 := S2.cell 1 _ rfl
  have c2 := S2.cell 2 _ rfl
  have c5 := S2.cell 5 _ rfl
  have c6 := S2.cell 6 _ rfl
  have hkk2 : kk = 0 ∨ kk = 1 ∨ kk = 2 ∨ kk = 3 ∨ kk = 4 ∨ kk = 5 := by omega
  rcases hkk2 with rfl | rfl | rfl | rfl | rfl | rfl
  iterate 3
    · have e1 : AT = (CF.1, 0, CF.2.1) := by rw [HAT.out, if_pos (by decide)]
      have e2 : AM = (CM.1, 0, CM.2.1) := by rw [HAM.out, if_pos (by decide)]
      have e3 : DT = CF.2.2 := by rw [HDT.out, if_pos (by decide)]
      have e4 : DM = CM.2.2 := by rw [HDM2.out, if_pos (by decide)]
      subst e1 e2 e3 e4
      obtain ⟨cf1, cf2, cf3⟩ := CF
      obtain ⟨cm1, cm2, cm3⟩ := CM
      simp only at HC HCM
      clear HAT HAM HDT HDM2
      go_wp2_with fail
      refine (HC.out S2.p1 (by simp [HM.out])).mono ?_
      rintro e w3 ⟨rfl, S3⟩
      have c5 := S3.p1.cell 5 _ rfl
      have c6 := S3.p1.cell 6 _ rfl
      clear S2 c0 c1 c2 HC
      go_wp2_with fail
      refine (HCM.out S3.p2 (by simp [HM.out])).mono ?_
      rintro e w4 ⟨rfl, S4⟩
      have HS4 := hide (S4.p1.p2.drop)
      clear S3 S4 c5 c6 HCM
      by_cases q1 : cf1 = cm1
      · by_cases q2 : cf2 = cm2
        · subst q1 q2
          have b1 : (cf1 == cf1) = true := by simp
          have b2 : (cf2 == cf2) = true := by simp
          go_wp2_with fail
          go_ret
          exact ⟨by simp, HS4.out⟩
        · subst q1
          have b1 : (cf1 == cf1) = true := by simp
          have b2 : (cf2 == cm2) = false := by simpa using q2
          go_wp2_with fail
          go_ret
          exact ⟨by simp [q2], HS4.out⟩
      · have b1 : (cf1 == cm1) = false := by simpa using q1
        go_wp2_with fail
        go_ret
        exact ⟨by simp [q1], HS4.out⟩
  · have e1 : AT = ([], SF.1, SF.2.1) := by rw [HAT.out, if_neg (by decide), if_pos rfl]
    have e2 : AM = ([], SM.1, SM.2.1) := by rw [HAM.out, if_neg (by decide), if_pos rfl]
    have e3 : DT = SF.2.2 := by rw [HDT.out, if_neg (by decide), if_pos rfl]
    have e4 : DM = SM.2.2 := by rw [HDM2.out, if_neg (by decide), if_pos rfl]
    subst e1 e2 e3 e4
    obtain ⟨cf1, cf2, cf3⟩ := SF
    obtain ⟨cm1, cm2, cm3⟩ := SM
    simp only at HS HSM
    clear HAT HAM HDT HDM2
    go_wp2_with fail
    refine (HS.out S2.p1 (by simp [HM.out])).mono ?_
    rintro e w3 ⟨rfl, S3⟩
    have c5 := S3.p1.cell 5 _ rfl
    clear S2 c0 c1 c2 HS
    go_wp2_with fail
    refine (HSM.out S3.p2 (by simp [HM.out])).mono ?_
    rintro e w4 ⟨rfl, S4⟩
    have HS4 := hide (S4.p1.p2.drop)
    clear S3 S4 c5 c6 HSM
    by_cases q1 : cf1 = cm1
    · by_cases q2 : cf2 = cm2
      · subst q1 q2
        have b1 : (cf1 == cf1) = true := by simp
        have b2 : (cf2 == cf2) = true := by simp
        go_wp2_with fail
        go_ret
        exact ⟨by simp, HS4.out⟩
      · subst q1
        have b1 : (cf1 == cf1) = true := by simp
        have b2 : (cf2 == cm2) = false := by simpa using q2
        go_wp2_with fail
        go_ret
        exact ⟨by simp [q2], HS4.out⟩
    · have b1 : (cf1 == cm1) = false := by simpa using q1
      go_wp2_with fail
      go_ret
      exact ⟨by simp [q1], HS4.out⟩
  · have e1 : AT = ([], 0, DF.1) := by rw [HAT.out, if_neg (by decide), if_neg (by decide), if_pos rfl]
    have e2 : AM = ([], 0, DE.1) := by rw [HAM.out, if_neg (by decide), if_neg (by decide), if_pos rfl]
    have e3 : DT = DF.2 := by rw [HDT.out, if_neg (by decide), if_neg (by decide), if_pos rfl]
    have e4 : DM = DE.2 := by rw [HDM2.out, if_neg (by decide), if_neg (by decide), if_pos rfl]
    subst e1 e2 e3 e4
    obtain ⟨cf1, cf3⟩ := DF
    obtain ⟨cm1, cm3⟩ := DE
    simp only at HD HDM
    clear HAT HAM HDT HDM2
    go_wp2_with fail
    refine (HD.out S2.p1 (by simp [HM.out])).mono ?_
    rintro e w3 ⟨rfl, S3⟩
    clear S2 c0 c1 c2 c5 c6 HD
    go_wp2_with fail
    refine (HDM.out S3.p2 (by simp [HM.out])).mono ?_
    rintro e w4 ⟨rfl, S4⟩
    have HS4 := hide (S4.p1.p2.drop)
    clear S3 S4 HDM
    have hb : decide ((([], 0, cf1) : List UInt8 × Int × Int) = ([], 0, cm1)) = (cf1 == cm1) := by rw [Bool.eq_iff_iff]; simp
    go_wp2_with fail
    go_ret
    exact ⟨Eq.trans rfl (congrArg (fun b => Ending.returned (.bool b)) (by first | exact hb.symm | (rw [Bool.eq_iff_iff]; simp))), HS4.out⟩
  · have e1 : AT = ([], 0, KF) := by rw [HAT.out, if_neg (by decide), if_neg (by decide), if_neg (by decide)]
    have e2 : AM = ([], 0, KM) := by rw [HAM.out, if_neg (by decide), if_neg (by decide), if_neg (by decide)]
    have e3 : DT = T := by rw [HDT.out, if_neg (by decide), if_neg (by decide), if_neg (by decide)]
    have e4 : DM = M2 := by rw [HDM2.out, if_neg (by decide), if_neg (by decide), if_neg (by decide)]
    subst e1 e2 e3 e4
    clear HAT HAM HDT HDM2
    go_wp2_with fail
    refine (HK.out S2.p1 (by simp [HM.out])).mono ?_
    rintro e w3 ⟨rfl, S3⟩
    clear S2 c0 c1 c2 c5 c6 HK
    go_wp2_with fail
    refine (HKM.out S3.p2 (by simp [HM.out])).mono ?_
    rintro e w4 ⟨rfl, S4⟩
    have HS4 := hide (S4.p1.p2.drop)
    clear S3 S4 HKM
    have hb : decide ((([], 0, KF) : List UInt8 × Int × Int) = ([], 0, KM)) = (KF == KM) := by rw [Bool.eq_iff_iff]; simp
    go_wp2_with fail
    go_ret
    exact ⟨Eq.trans rfl (congrArg (fun b => Ending.returned (.bool b)) (by first | exact hb.symm | (rw [Bool.eq_iff_iff]; simp))), HS4.out⟩
end Go.Proofs.YtecpfnobnpddaaaGreatDoor
