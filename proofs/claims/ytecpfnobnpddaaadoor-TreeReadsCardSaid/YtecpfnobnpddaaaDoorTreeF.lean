/- Contracts of the package tree: Delete. No condition. -/
import Derived.Test.YtecpfnobnpddaaaDoorTreeE
import Derived.Test.YtecpfnobnpddaaaDoorTHead
set_option linter.unusedVariables false
set_option linter.unusedSimpArgs false
namespace Go.Proofs.YtecpfnobnpddaaaDoor
open Go.RowKit

section
variable {g w : World} {L : List Asn} {b mb x : Nat} {T : TreeT}
theorem at_get {T : TreeT} {s : List UInt8} {v : Int} (h : (atF T s v).2 = 0) : (getF T s).2 = 0 := by
  unfold atF at h
  split at h
  · simp at h
  · exact h
theorem look_get (S0 : Sat g w (mapA kS nodV mb T :: L)) (k : List UInt8) :
    (Instr.lookup 71 (.map (some mb)) (.string (S k)) false).run Tryd.prog w = .ok (nodV ((mget T k).getD zN)) w := by
  cases h : mget T k with
  | none => exact look_non S0 h false
  | some n => exact look_node S0 h false
set_option maxRecDepth 100000 in
set_option maxHeartbeats 4000000 in
theorem delete_tree (S0 : Sat g w (treeA b T :: L)) (hG : GL g) (hm : oldA g ∈ L) (hP : PathsOk T) (hT : T.length ≤ 1000000) (s : List UInt8) (v : Int) (hs : s.length ≤ 140737488350000)
    (hN : ∀ n, mget T (upF s).1 = some n → 0 ≤ n.below ∧ n.below ≤ 1000000) :
    Calls Tryd.prog 23 #[ptr b, .string (S s), .int .i64 v] w fun e w' => e = .returned (.int .i64 (deleteF T s v).1) ∧ Sat g w' (treeA b (deleteF T s v).2 :: L) := by
  have HR : Hid (∀ r, deleteF T s v = r → ∀ w', Sat g w' (treeA b r.2 :: L) → Ending.returned (.int .i64 r.1) = Ending.returned (.int .i64 (deleteF T s v).1) ∧ Sat g w' (treeA b (deleteF T s v).2 :: L)) :=
    hide fun r h w' S' => by subst h; exact ⟨rfl, S'⟩
  have HF : Hid (deleteF T s v = if (atF T s v).2 ≠ 0 then ((atF T s v).2, T) else if s = [47] then (1, T) else if kidL T s ≠ [] then (13, T) else
    (0, mdel (mput T (upF s).1 (lessN ((mget T (upF s).1).getD zN))) s)) := rfl
  have hat := at_tree S0 (hG.at S0 (by simp [hm])) s v (by omega)
  have HAG : Hid ((atF T s v).2 = 0 → (getF T s).2 = 0) := hide at_get
  have HKF : Hid (kidsF T s = if (getF T s).2 = 0 then sortB (kidL T s) else []) := rfl
  have hn1 : 0 ≤ ((mget T (upF s).1).getD zN).below ∧ ((mget T (upF s).1).getD zN).below ≤ 1000000 := by
    cases h : mget T (upF s).1 with
    | none => exact ⟨by decide, by decide⟩
    | some n => exact hN n h
  have HKD : Hid (∀ {w : World} {L' : List Asn}, oldA g ∈ L' → Sat g w (treeA b T :: L') → Calls Tryd.prog 57 #[ptr b, .string (S s)] w fun e w' => ∃ v, e = .returned (.tuple #[v, .int .i64 (getF T s).2]) ∧ Sat g w' (rowA 9 1 v (kidsF T s).length (Ss (kidsF T s)) :: treeA b T :: L')) :=
    hide fun hm S' => kids_tree S' (hG.at S' (by simp [hm])) hP hT s (by omega)
  have HLK : Hid (∀ {w : World} {mb : Nat} {L : List Asn}, Sat g w (mapA kS nodV mb T :: L) → (Instr.lookup 71 (.map (some mb)) (.string (S (upF s).1)) false).run Tryd.prog w = .ok (nodV ((mget T (upF s).1).getD zN)) w) := hide fun S' => look_get S' _
  generalize deleteF T s v = R at *
  generalize atF T s v = A at *
  generalize (mget T (upF s).1).getD zN = n1 at *
  obtain ⟨n, e0⟩ := A
  simp only at hat HF HAG
  clear hN hP
  go_enter Tryd.func23, Tryd.ntmps23
  go_wp2_with fail
  refine hat.mono ?_
  rintro e w2 ⟨rfl, S2⟩
  clear hat S0 hG
  go_upto_region 2 with fail
  have S3 := (S2.box (nodC n) 30 rfl).drop
  generalize w2.alloc (.cells (nodC n) 30) = w3 at *
  generalize w2.heap.size = xb at *
  clear S2
  by_cases h0 : e0 = 0
  · subst h0
    have hg0 := HAG.out rfl
    by_cases h47 : s = [47]
    · have h47b : (s == [47]) = true := by simpa using h47
      have e : R = (1, T) := by rw [HF.out, if_neg (by simp), if_pos h47]
      have HE := hide e
      clear e HF h47 hg0
      go_wp2_with fail
      go_ret
      exact HR.out (1, T) HE.out _ S3
    · have h47b : (s == [47]) = false := by simpa using h47
      have HF2 : Hid (R = if kidL T s ≠ [] then (13, T) else (0, mdel (mput T (upF s).1 (lessN n1)) s)) := hide (by rw [HF.out, if_neg (by simp), if_neg h47])
      have hkd := HKD.out hm S3
      have hkf : kidsF T s = sortB (kidL T s) := by rw [HKF.out, if_pos hg0]
      have hkl : (sortB (kidL T s)).length = (kidL T s).length := sortB_length _
      rw [hkf, hg0] at hkd
      clear HF HKF HAG HKD hkf h47 hg0
      generalize Ss (sortB (kidL T s)) = ks at *
      generalize (sortB (kidL T s)).length = kn at *
      go_wp2_with fail
      refine hkd.mono ?_
      rintro e w4 ⟨v4, rfl, S4⟩
      clear hkd S3
      obtain ⟨A, c, rfl, -⟩ := S4.row.form
      by_cases hk : kidL T s = []
      · have e : R = (0, mdel (mput T (upF s).1 (lessN n1)) s) := by rw [HF2.out, if_neg (by simp [hk])]
        have HE := hide e
        rw [hk] at hkl
        simp only [List.length_nil] at hkl
        subst hkl
        clear e HF2 hk
        have hup := up_path w4 s (by omega)
        generalize (upF s).1 = up at *
        generalize (upF s).2 = last at *
        have S5 := S4.drop
        clear S4
        go_wp2_with fail
        refine hup.mono ?_
        rintro e w5 ⟨rfl, hk5⟩
        have S6 := S5.keep hk5
        clear S5 hup hk5
        obtain ⟨mb, S7⟩ := S6.treeOpen
        clear S6
        have c0 := S7.cell 0 _ rfl
        have hl := HLK.out S7.p1
        go_upto_region 11 with fail
        have S8 := S7.box (nodC n1) 30 rfl
        generalize w5.alloc (.cells (nodC n1) 30) = w6 at *
        generalize w5.heap.size = yb at *
        clear S7 c0 hl HLK
        obtain ⟨d, ve, bl, ow, md, st, sr⟩ := n1
        have HE2 : Hid (R = (0, mdel (mput T up ⟨d, ve, bl + 1, ow, md, st, sr⟩) s)) := HE
        clear HE
        simp only at hn1
        obtain ⟨hb1, hb2⟩ := hn1
        obtain ⟨a0, a1, a2, a3, a4, a5, a6⟩ := S8.nod
        simp only at a0 a1 a2 a3 a4 a5 a6
        have f2 := S8.cells_fz 2
        go_upto_region 12 with fail
        have S9 : Sat g (w6.setCell ⟨yb, 2, none⟩ (.int .i64 (bl + 1))) (cellsA yb 30 (nodC ⟨d, ve, bl + 1, ow, md, st, sr⟩) :: cellsA b 73 #[.map (some mb)] :: mapA kS nodV mb T :: L) := S8.setc 2 (.int .i64 (bl + 1))
        generalize w6.setCell ⟨yb, 2, none⟩ (.int .i64 (bl + 1)) = w7 at *
        clear S8 f2 a0 a1 a2 a3 a4 a5 a6
        have S10 := S9.drew
        obtain ⟨a0, a1, a2, a3, a4, a5, a6⟩ := S9.nod
        obtain ⟨b0, b1, b2, b3, b4, b5, b6⟩ := S10.nod
        have c0 := S9.p1.cell 0 _ rfl
        have c0' := S10.p1.cell 0 _ rfl
        obtain ⟨w10, hup, S11⟩ := put_node S10.p2 up ⟨d, ve, bl + 1, ow, md, st, sr⟩
        simp only at a0 a1 a2 a3 a4 a5 a6 b0 b1 b2 b3 b4 b5 b6
        clear S9 S10
        go_still_tail 6, (by kernel_rfl)
        change wpList _ _ _ _ _ w7.drew
        go_upto_region 13 with fail
        clear hup c0 c0' a0 a1 a2 a3 a4 a5 a6 b0 b1 b2 b3 b4 b5 b6
        have c0 := S11.p2.cell 0 _ rfl
        obtain ⟨w11, hdel, S12⟩ := del_node S11 s
        have HS := hide (S12.p1.drop.p1.treeShut)
        clear S11 S12
        go_wp2_with fail
        go_ret
        exact HR.out (0, mdel (mput T up ⟨d, ve, bl + 1, ow, md, st, sr⟩) s) HE2.out _ HS.out
      · have e : R = (13, T) := by rw [HF2.out, if_pos hk]
        have HE := hide e
        have hk1 : 1 ≤ kn := by
          cases h : kidL T s with
          | nil => exact absurd h hk
          | cons a r => rw [h] at hkl; simp at hkl; omega
        have hk2 : (0 : Int) < (kn : Int) := by omega
        clear e HF2 hk hkl
        go_wp2_with fail
        go_ret
        exact HR.out (13, T) HE.out _ S4.drop
  · have h0b : (e0 != 0) = true := by simpa using h0
    have e : R = (e0, T) := by rw [HF.out, if_pos h0]
    have HE := hide e
    clear e HF HAG HKF HKD
    go_wp2_with fail
    go_ret
    exact HR.out (e0, T) HE.out _ S3
end
end Go.Proofs.YtecpfnobnpddaaaDoor
