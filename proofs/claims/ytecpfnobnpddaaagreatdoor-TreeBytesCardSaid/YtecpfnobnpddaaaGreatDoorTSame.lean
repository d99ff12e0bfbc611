/- Contracts of the package tree: Same. No condition. -/
import Derived.Test.YtecpfnobnpddaaaGreatDoorTreeM
import Derived.Test.YtecpfnobnpddaaaGreatDoorFullM
set_option linter.unusedVariables false
set_option linter.unusedSimpArgs false
namespace Go.Proofs.YtecpfnobnpddaaaGreatDoor
open Go.RowKit

theorem nodT_eq (o p : NodeT) : decide (o = p) = ((o.data == p.data) && ((o.version == p.version) && ((o.below == p.below) && ((o.owner == p.owner) && ((o.made == p.made) && ((o.set == p.set) && ((o.serial == p.serial) && true))))))) := by
  obtain ⟨a0, a1, a2, a3, a4, a5, a6⟩ := o
  obtain ⟨b0, b1, b2, b3, b4, b5, b6⟩ := p
  rw [Bool.eq_iff_iff]
  simp
theorem nod_fields (w : World) (o p : NodeT) : ∃ fs, Tryz.prog.underlying 62 = some (.struct fs) ∧ (Op.eqFields 9999 (nodC o) (nodC p) fs.toList).run Tryz.prog w = .ok (decide (o = p)) w := by
  rw [nodT_eq]
  exact ⟨_, Tryz.underlying62,
    wf_cons (.string (S o.data)) (.string (S p.data)) (by decide) (by kernel_rfl) (by kernel_rfl) (wstr_eq (d := 9998) Tryz.underlying9)
    (wf_cons (.int .i64 o.version) (.int .i64 p.version) (by decide) (by kernel_rfl) (by kernel_rfl) (run_equalIn_int _ 9998 _ _ _ _ _ Tryz.underlying3)
    (wf_cons (.int .i64 o.below) (.int .i64 p.below) (by decide) (by kernel_rfl) (by kernel_rfl) (run_equalIn_int _ 9998 _ _ _ _ _ Tryz.underlying3)
    (wf_cons (.int .i64 o.owner) (.int .i64 p.owner) (by decide) (by kernel_rfl) (by kernel_rfl) (run_equalIn_int _ 9998 _ _ _ _ _ Tryz.underlying3)
    (wf_cons (.int .i64 o.made) (.int .i64 p.made) (by decide) (by kernel_rfl) (by kernel_rfl) (run_equalIn_int _ 9998 _ _ _ _ _ Tryz.underlying3)
    (wf_cons (.int .i64 o.set) (.int .i64 p.set) (by decide) (by kernel_rfl) (by kernel_rfl) (run_equalIn_int _ 9998 _ _ _ _ _ Tryz.underlying3)
    (wf_cons (.int .i64 o.serial) (.int .i64 p.serial) (by decide) (by kernel_rfl) (by kernel_rfl) (run_equalIn_int _ 9998 _ _ _ _ _ Tryz.underlying3) rfl))))))⟩
theorem neq_nod (w : World) (o p : NodeT) : (binOp .neq 62 (nodV o) (nodV p)).run Tryz.prog w = .ok (.bool (!decide (o = p))) w := by
  obtain ⟨fs, h1, h2⟩ := nod_fields w o p
  exact wneq_of h1 (by kernel_rfl) h2

/-- are two trees the same? -/
def sameT (T U : TreeT) : Bool := decide (T.length = U.length) && T.all fun p => decide (mget U p.1 = some p.2)
def sameAt (U lf : TreeT) : Bool := lf.all fun p => decide (mget U p.1 = some p.2)
theorem same_split {lf U : TreeT} {k : List UInt8} {v : NodeT} (hn : (keys lf).Nodup) (h : (k, v) ∈ lf) : sameAt U lf = (decide (mget U k = some v) && sameAt U (mdel lf k)) := by
  unfold sameAt
  rw [(mdel_perm hn h).all_eq]
  rfl
section
variable {g w : World} {L : List Asn} {b mb x : Nat} {T U : TreeT}
set_option maxRecDepth 100000 in
set_option maxHeartbeats 4000000 in
theorem equal_maps {b1 b2 : Nat} (S0 : Sat g w (mapA kS nodV b1 T :: mapA kS nodV b2 U :: L)) :
    Calls Tryz.prog 70 #[.map (some b1), .map (some b2)] w fun e w' => e = .returned (.bool (sameT T U)) ∧ Sat g w' (mapA kS nodV b1 T :: mapA kS nodV b2 U :: L) := by
  have hl1 := len_node S0
  have hl2 := len_node S0.p1
  have hnd := S0.mapOf.nodup
  by_cases hlen : T.length = U.length
  · have HF : Hid (sameT T U = sameAt U T) := by
      show _ = _
      unfold sameT sameAt
      simp [hlen]
    generalize sameT T U = R at *
    have hlb : (T.length : Int) = (U.length : Int) := by omega
    clear hlen
    rw [← hlb] at hl2
    go_enter Tryz.func70, Tryz.ntmps70
    go_wp2_with (refine wpList_srange rfl _ _ rfl Tryz.underlying107 S0 rfl ?_; intro w4 S1)
    generalize w.heap.size = ri at *
    clear S0 hl1 hl2 hlb
    go_simp
    go_loopw [5] (fun _ wr => ∃ lf : TreeT, R = sameAt U lf ∧ Sat g wr (rangeA kS nodV b1 ri T lf :: mapA kS nodV b2 U :: L)) (fun _ wr => wr.rangeLeft b1 ri)
    case atStart => exact ⟨T, HF.out, S1⟩
    case round =>
      obtain ⟨lf, hR, S2⟩ := hrel
      clear S1 HF
      have hsub := S2.rangeSub
      have hnl : (keys lf).Nodup := hnd.sublist (hsub.map _)
      have hml := S2.rangeLeft
      have HR := hide hR
      clear hR
      go_wp2_with (at_next; refine wpList_snext rfl _ rfl kTS S2 rfl ?_ ?_)
      · intro hl0
        subst hl0
        have S3 := S2.rangeEnd
        have e : R = true := HR.out
        subst e
        clear S2 HR
        go_wp2_with fail
        go_ret
        exact ⟨rfl, S3⟩
      · intro k nv w5 hm1 hm2 S3 hlt hen
        have hs := same_split (U := U) hnl hm1
        rw [← HR.out] at hs
        have HS := hide hs
        have HML := hide hml
        have HLT := hide hlt
        clear S2 hml hlt hm1 hm2 hsub hnl hs HR
        go_upto_region 6 with fail
        have S4 := S3.box (nodC nv) 62 rfl
        generalize w5.alloc (.cells (nodC nv) 62) = w6 at *
        generalize w5.heap.size = xb at *
        clear S3 hen
        cases hg : mget U k with
        | none =>
          have e : R = false := by rw [HS.out, hg]; rfl
          subst e
          have hl := look_non S4.p2 hg true
          go_upto_region 7 with fail
          have S5 := (S4.box (nodC zN) 62 rfl).drop.drop
          generalize w6.alloc (.cells (nodC zN) 62) = w7 at *
          generalize w6.heap.size = yb at *
          clear S4 hl hg
          go_wp2_with fail
          go_ret
          exact ⟨rfl, S5.rangeEnd⟩
        | some n2 =>
          have hl := look_node S4.p2 hg true
          have HS2 : Hid (R = (decide (n2 = nv) && sameAt U (mdel lf k))) := by
            have h := HS.out
            rw [hg] at h
            show _ = _
            rw [h]
            congr 1
            simp
          clear HS
          go_upto_region 7 with fail
          have S5 := S4.box (nodC n2) 62 rfl
          generalize w6.alloc (.cells (nodC n2) 62) = w7 at *
          generalize w6.heap.size = yb at *
          clear S4 hl hg
          obtain ⟨a0, a1, a2, a3, a4, a5, a6⟩ := S5.nod
          obtain ⟨b0, b1, b2, b3, b4, b5, b6⟩ := S5.p1.nod
          by_cases hv : nv = n2
          · subst hv
            have hne : ∀ w', (binOp .neq 62 (nodV nv) (nodV nv)).run Tryz.prog w' = .ok (.bool false) w' := fun w' => by
              have := neq_nod w' nv nv
              rwa [decide_eq_true rfl] at this
            simp only [nodV] at hne
            have h := HS2.out
            rw [decide_eq_true rfl, Bool.true_and] at h
            have HS3 := hide h
            clear h HS2
            go_wp2_with fail
            go_roundw
            case rel => exact ⟨mdel lf k, HS3.out, S5.drop.drop⟩
            case measure => rw [S5.drop.drop.rangeLeft, HML.out]; exact HLT.out
          · have hne : ∀ w', (binOp .neq 62 (nodV nv) (nodV n2)).run Tryz.prog w' = .ok (.bool true) w' := fun w' => by
              have := neq_nod w' nv n2
              rwa [decide_eq_false hv] at this
            simp only [nodV] at hne
            have e : R = false := by rw [HS2.out, decide_eq_false (fun h => hv h.symm)]; rfl
            subst e
            clear hv HS2
            go_wp2_with fail
            go_ret
            exact ⟨rfl, S5.drop.drop.rangeEnd⟩
  · have e : sameT T U = false := by simp [sameT, hlen]
    rw [e]
    have hlb : ((T.length : Int) != (U.length : Int)) = true := by simp; omega
    have hlb2 : ((T.length : Int) == (U.length : Int)) = false := by simp; omega
    have HS := hide S0
    clear hlen S0 e
    go_enter Tryz.func70, Tryz.ntmps70
    go_wp2_with fail
    go_ret
    exact ⟨rfl, HS.out⟩

set_option maxRecDepth 100000 in
set_option maxHeartbeats 1000000 in
theorem same_tree {b2 : Nat} (S0 : Sat g w (treeA b T :: treeA b2 U :: L)) :
    Calls Tryz.prog 31 #[ptr b, ptr b2] w fun e w' => e = .returned (.bool (sameT T U)) ∧ Sat g w' (treeA b T :: treeA b2 U :: L) := by
  obtain ⟨m1, S1⟩ := S0.treeOpen
  obtain ⟨m2, S2⟩ := S1.p2.treeOpen
  have S3 : Sat g w (mapA kS nodV m1 T :: mapA kS nodV m2 U :: cellsA b 109 #[.map (some m1)] :: cellsA b2 109 #[.map (some m2)] :: L) := S2.b3.p2
  have c1 := S3.p2.cell 0 _ rfl
  have c2 := S3.p3.cell 0 _ rfl
  have c1' := S3.p2.drew.cell 0 _ rfl
  have c2' := S3.p3.drew.cell 0 _ rfl
  have heq := equal_maps S3.drew
  clear S0 S1 S2 S3
  go_enter Tryz.func31, Tryz.ntmps31
  go_wp2_with fail
  go_still_tail 8, (by kernel_rfl)
  change wpList _ _ _ _ _ w.drew
  go_wp2_with fail
  refine heq.mono ?_
  rintro e w' ⟨rfl, S4⟩
  go_wp2_with fail
  go_ret
  exact ⟨rfl, S4.p2.treeShut.p2.p2.p1.treeShut.p1⟩
end
end Go.Proofs.YtecpfnobnpddaaaGreatDoor
