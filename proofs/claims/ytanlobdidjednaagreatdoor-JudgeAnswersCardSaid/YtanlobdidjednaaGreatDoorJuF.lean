/- What the judge hears of later; the document's example of layer 20; committed commands and their states: walked. No condition. -/
import Derived.Test.YtanlobdidjednaaGreatDoorJuE
import Derived.Test.YtanlobdidjednaaGreatDoorCmL
set_option linter.unusedVariables false
set_option linter.unusedSimpArgs false
namespace Go.Proofs.YtanlobdidjednaaGreatDoor
open Go.RowKit

section
variable {g w : World} {L : List Asn} {b : Nat} {m : JTx} {ss : List StT} {told wrong : Int}
end
/-- how many states there are: up to the first entry that lacks -/
theorem JOk.known {m : JTx} {ss : List StT} (h : JOk m ss) (hf : mget m (ss.length : Int) = none) {k : Nat} (h1 : ∀ j : Nat, 1 ≤ j → j ≤ k → (mget m (j : Int)).isSome = true) (h2 : mget m ((k : Int) + 1) = none) : ss.length = k + 1 := by
  have hp := h.pos
  rcases Nat.lt_trichotomy ss.length (k + 1) with hl | hl | hl
  · have := h1 ss.length hp (by omega)
    rw [hf] at this
    cases this
  · exact hl
  · have := h.got (k + 1) (by omega) hl
    rw [show (((k + 1 : Nat)) : Int) = (k : Int) + 1 by omega, h2] at this
    cases this

section
variable {g w : World} {L : List Asn}
set_option maxRecDepth 100000 in
set_option maxHeartbeats 8000000 in
theorem head_judge (S0 : Sat g w L) (hG : GL g) (hm : oldA g ∈ L) (hT : TabE g) :
    Calls Tryz.prog 4 #[] w fun e w' => e = .returned (.bool true) ∧ Sat g w' L := by
  have HG0 := hide hG
  have HT0 := hide hT
  clear hG hT
  have e97 : (⟨#[97]⟩ : ByteArray) = S [97] := rfl
  have e98 : (⟨#[98]⟩ : ByteArray) = S [98] := rfl
  have HC1 : Hid (∀ (w' : World) (L' : List Asn) (b : Nat), Sat g w' (judgeA b [] [st0] 0 0 :: L') → oldA g ∈ L' → Calls Tryz.prog 8 #[ptr b, .int .i64 1, .string ⟨#[97]⟩] w' fun e w2 => ∃ ss2, e = .returned (.bool true) ∧ JOk [(1, [97])] ss2 ∧ mget ([(1, [97])] : JTx) (ss2.length : Int) = none ∧ ss2.length = 2 ∧ Sat g w2 (judgeA b [(1, [97])] ss2 0 0 :: L')) := hide fun w' L' b S' h => by
    rw [e97]
    refine (commit_j S' HG0.out h HT0.out JOk.init (by simp [mget]) 1 [97] (by simp) (by simp)).mono ?_
    rintro e w2 ⟨m2, ss2, wr2, r, rfl, hJ, hF, hc, S2⟩
    rcases hc with ⟨-, rfl, rfl, rfl⟩ | ⟨t', h1, -⟩
    · exact ⟨ss2, rfl, hJ, hF, hJ.known hF (k := 1) (fun j h1 h2 => (show j = 1 by omega) ▸ rfl) rfl, S2⟩
    · simp [mget] at h1
  have HC2 : Hid (∀ (w' : World) (L' : List Asn) (b : Nat) (ss2 : List StT), JOk [(1, [97])] ss2 → mget ([(1, [97])] : JTx) (ss2.length : Int) = none → Sat g w' (judgeA b [(1, [97])] ss2 0 0 :: L') → oldA g ∈ L' → Calls Tryz.prog 8 #[ptr b, .int .i64 1, .string ⟨#[98]⟩] w' fun e w2 => e = .returned (.bool false) ∧ Sat g w2 (judgeA b [(1, [97])] ss2 0 6 :: L')) := hide fun w' L' b ss2 hJ hF S' h => by
    rw [e98]
    refine (commit_j S' HG0.out h HT0.out hJ hF 1 [98] (by simp) (by simp)).mono ?_
    rintro e w2 ⟨m2, ss3, wr2, r, rfl, hJ3, hF3, hc, S2⟩
    rcases hc with ⟨h1, -⟩ | ⟨t', h1, rfl, rfl, rfl, rfl⟩
    · simp [mget] at h1
    · have e3 : t' = [97] := by
        have h2 : mget ([(1, [97])] : JTx) 1 = some [97] := rfl
        rw [h2] at h1
        injection h1 with h1
        exact h1.symm
      subst e3
      exact ⟨rfl, S2⟩
  clear e97 e98
  go_enter Tryz.func4, Tryz.ntmps4
  go_wp2_with fail
  refine (new_j S0).mono ?_
  rintro e w1 ⟨b, rfl, S1⟩
  clear S0
  go_wp2_with fail
  refine (HC1.out _ _ b S1 hm).mono ?_
  rintro e w2 ⟨ss2, rfl, hJ, hF, h2, S2⟩
  have HJ := hide hJ
  have HF := hide hF
  clear S1 HC1 hJ hF
  go_wp2_with fail
  refine (j_known S2 (by omega)).mono ?_
  rintro e w3 ⟨rfl, S3⟩
  rw [h2]
  clear S2
  go_wp2_with fail
  refine (j_wrong S3).mono ?_
  rintro e w4 ⟨rfl, S4⟩
  clear S3
  go_wp2_with fail
  refine (HC2.out _ _ b ss2 HJ.out HF.out S4 hm).mono ?_
  rintro e w5 ⟨rfl, S5⟩
  clear S4 HC2
  go_wp2_with fail
  refine (j_wrong S5).mono ?_
  rintro e w6 ⟨rfl, S6⟩
  have HS := hide S6.drop
  clear S5 S6
  go_wp2_with fail
  go_ret
  exact ⟨rfl, HS.out⟩
end

theorem flat_cq (l : List CQ) : (l.flatMap fun q : CmdT × Option Addr × Nat => cmdL q.1 q.2.1 q.2.2) = l.flatMap cqL := rfl
/-- what a list of texts comes to -/
def listF (T : List (List UInt8)) (k : Nat) : List UInt8 := (T[k]?).getD []
structure FixOk (T : List (List UInt8)) (ps : PsT) : Prop where
  tl : ∀ t ∈ T, t.length ≤ 488
  len : ps.length = T.length + 1
  st : ∀ (k : Nat) (p : Nat × StT), ps[k]? = some p → RelS (chainF (listF T) k) p.2 ∧ FitS p.2 (1 + 8 * k) k
theorem FixOk.init (sb : Nat) : FixOk [] [(sb, st0)] := ⟨by simp, rfl, fun k p hk => by
  match k, hk with
  | 0, hk =>
    simp only [List.getElem?_cons_zero, Option.some.injEq] at hk
    subst hk
    exact ⟨RelS.refl inv0, fit0⟩
  | k + 1, hk => simp at hk⟩
set_option maxHeartbeats 1000000 in
theorem FixOk.next {T : List (List UInt8)} {ps : PsT} (h : FixOk T ps) (hl : T.length ≤ 60) {t : List UInt8} (ht : t.length ≤ 488) {p : Nat × StT} (hp : ps[T.length]? = some p) {c : StT} (hr : RelS p.2 c) (hf : FitS c (1 + 8 * T.length) T.length) (b2 : Nat) :
    FixOk (T ++ [t]) (ps ++ [(b2, (applyF c t).2)]) := by
  obtain ⟨h1, h2⟩ := h.st _ _ hp
  refine ⟨?_, by simp [h.len], ?_⟩
  · intro x hx
    rcases List.mem_append.1 hx with hx | hx
    · exact h.tl x hx
    · simp only [List.mem_singleton] at hx
      rw [hx]; exact ht
  · have hch : ∀ k, k ≤ T.length → chainF (listF (T ++ [t])) k = chainF (listF T) k := fun k hk => chainF_eq k fun j hj => by
      unfold listF
      rw [List.getElem?_append_left (by omega)]
    intro k q hk
    have hlen := h.len
    by_cases hlt : k < ps.length
    · rw [List.getElem?_append_left hlt] at hk
      rw [hch k (by omega)]
      exact h.st k q hk
    · have hke : k = ps.length := by
        have := (List.getElem?_eq_some_iff.1 hk).1
        simp at this
        omega
      subst hke
      rw [List.getElem?_append_right (by omega)] at hk
      simp only [Nat.sub_self, List.getElem?_cons_zero, Option.some.injEq] at hk
      subst hk
      rw [hlen]
      have hc := chainF_fit (listF T) T.length (by omega)
      have h3 := hc.same (by omega) (h1.trans hr) t
      have h4 := hf.step (by omega) (by omega) t
      refine ⟨?_, ?_⟩
      · show RelS (applyF (chainF (listF (T ++ [t])) T.length) (listF (T ++ [t]) T.length)).2 _
        rw [hch _ (Nat.le_refl _), show listF (T ++ [t]) T.length = t by simp [listF]]
        exact h3.2
      · rw [show 1 + 8 * (T.length + 1) = 1 + 8 * T.length + 8 by omega]
        exact h4

set_option maxRecDepth 100000 in
set_option maxHeartbeats 8000000 in
theorem fixed_walk {W w : World} {L : List Asn} (S0 : Sat W w L) (hm : oldA W ∈ L) (hG : GL W) (hT : TabE W) (A : Option Addr) (qs0 : List CQ) (c : Nat) (hs : Src W 8 A qs0.length (qs0.flatMap cqL)) (hok : ∀ q ∈ qs0, CqOk W q) (hl : qs0.length ≤ 40) :
    Calls Tryz.prog 6 #[.slice A qs0.length c] w fun e w' => ∃ (T : List (List UInt8)) (A5 A6 : Option Addr) (c5 c6 : Nat) (ps : PsT), e = .returned (.tuple #[.slice A5 T.length c5, .slice A6 ps.length c6]) ∧ T.length = qs0.length + 3 ∧ FixOk T ps ∧
      Sat W w' (rowA 9 1 (.slice A5 T.length c5) T.length (Ss T) :: jR (.slice A6 ps.length c6) ps :: jS ps :: L) := by
  have HG0 := hide hG
  have HT0 := hide hT
  have HCM := hide fun (w' : World) (L' : List Asn) (S' : Sat W w' L') (h : oldA W ∈ L') => cmds_walk S' h A qs0 c hs hok hl
  clear hG hT hs hok
  go_enter Tryz.func6, Tryz.ntmps6
  have S1 := (S0.box #[] 9 rfl).rowOf 1 0 rfl (Nat.zero_le _)
  go_wp2_with fail
  generalize w.alloc (.cells #[] 9) = w1 at *
  generalize w.heap.size = tb at *
  refine (s_newst S1).mono ?_
  rintro e w2 ⟨sb, rfl, S2⟩
  clear S0 S1
  have S3 := (S2.box #[ptr sb] 43 rfl).rowOf 1 1 rfl (by unfold maxLen; omega)
  go_wp2_with fail
  generalize w2.alloc (.cells #[ptr sb] 43) = w3 at *
  generalize w2.heap.size = rb at *
  refine (HCM.out _ _ S3 (by simp [hm])).mono ?_
  rintro e w4 ⟨A2, c2, qs, rfl, hl2, hq2, S4⟩
  have HQ2 := hide hq2
  have HL0 := hide hl2
  have hlq : qs.length ≤ 43 := by omega
  clear S2 S3 HCM hq2
  go_wp2_with fail
  clear hl2
  go_loopw [4, 5, 16] (fun vT vS i wr => ∃ (k : Nat) (T : List (List UInt8)) (A5 A6 : Option Addr) (c5 c6 : Nat) (ps : PsT), k ≤ qs.length ∧ i = .int .i64 (k : Int) ∧ T.length = k ∧ FixOk T ps ∧ vT = .slice A5 T.length c5 ∧ vS = .slice A6 ps.length c6 ∧ Sat W wr (rowA 9 1 (.slice A5 T.length c5) T.length (Ss T) :: jR (.slice A6 ps.length c6) ps :: jS ps :: rowA 35 8 (.slice A2 qs.length c2) qs.length (qs.flatMap cqL) :: L)) (fun _ _ i _ => qs.length - (RowKit.intOf i).toNat)
  case atStart =>
    refine ⟨0, [], some ⟨tb, 0, none⟩, some ⟨rb, 0, none⟩, 0, 1, [(sb, st0)], by omega, rfl, rfl, FixOk.init sb, rfl, rfl, ?_⟩
    have S5 : Sat W w4 (jS [(sb, st0)] :: _) := Sat.restar (L1 := []) ((S4.bring 2).starNil.p1)
    exact ((S5.bring 2).bring 3)
  case round =>
    obtain ⟨k, T, A5, A6, c5, c6, ps, hk, rfl, rfl, hF, rfl, rfl, S5⟩ := hrel
    clear S4
    have HF := hide hF
    by_cases hlt : T.length < qs.length
    · obtain ⟨ad, q, rfl, hx, z0, z1, z2, z3, z4, z5, z6, z7⟩ := cqs_at (S5.bring 3).srcOf hlt
      have hq := HQ2.out q (List.mem_of_getElem? hx)
      obtain ⟨⟨kd, ss, rq, nt, ops, pa, ki, oc⟩, A1, cap1⟩ := q
      have HTX := hide fun (w' : World) (L' : List Asn) (S' : Sat W w' L') (h : oldA W ∈ L') => s_textq S' h hq
      have htl := text_len (c := ⟨kd, ss, rq, nt, ops, pa, ki, oc⟩)
      simp only at z0 z1 z2 z3 z4 z5 z6 z7 HTX
      generalize (bytesF ⟨kd, ss, rq, nt, ops, pa, ki, oc⟩).1 = t at *
      have S7 := S5.box #[.int .i64 kd, .int .i64 ss, .int .i64 rq, .int .i64 nt, .slice A1 ops.length cap1, .string (S pa), .bool ki, .bool oc] 35 rfl
      have x0 := S7.cell 0 _ rfl
      have x1 := S7.cell 1 _ rfl
      have x2 := S7.cell 2 _ rfl
      have x3 := S7.cell 3 _ rfl
      have x4 := S7.cell 4 _ rfl
      have x5 := S7.cell 5 _ rfl
      have x6 := S7.cell 6 _ rfl
      have x7 := S7.cell 7 _ rfl
      have hplt0 : (T.length : Int) < (qs0.length : Int) + 3 := by have := HL0.out; omega
      clear hx hq
      go_upto_region 6 with fail
      generalize wr.alloc (.cells #[.int .i64 kd, .int .i64 ss, .int .i64 rq, .int .i64 nt, .slice A1 ops.length cap1, .string (S pa), .bool ki, .bool oc] 35) = w7 at *
      generalize wr.heap.size = cb at *
      clear S5 z0 z1 z2 z3 z4 z5 z6 z7
      go_wp2_with fail
      refine (HTX.out _ _ S7 (by simp [hm])).mono ?_
      rintro e w8 ⟨rfl, S8⟩
      clear S7 HTX x0 x1 x2 x3 x4 x5 x6 x7
      have S9 := (S8.drop)
      have hpl := hF.len
      have hTb : T.length ≤ 60 := by omega
      have hpb : ps.length ≤ 61 := by omega
      have HPL := hide hpl
      have hplt : (T.length : Int) < (ps.length : Int) := by omega
      have hw1 : IntKind.i64.wrap ((ps.length : Int) - 1) = (T.length : Int) := by rw [IntWalk.i64_in _ ⟨by omega, by omega⟩]; omega
      obtain ⟨adp, u, rfl, hu, zp⟩ := Src.at_ (S9.bring 1).srcOf (k := T.length) (by omega)
      obtain ⟨⟨sb9, s9⟩, hp, rfl⟩ : ∃ p : Nat × StT, ps[T.length]? = some p ∧ u = ptr p.1 := by
        rw [List.getElem?_map] at hu
        cases hp : ps[T.length]? with
        | none => rw [hp] at hu; cases hu
        | some p => rw [hp] at hu; injection hu with hu; exact ⟨p, rfl, hu.symm⟩
      obtain ⟨hr9, hf9⟩ := hF.st _ _ hp
      have HP := hide hp
      have HZ := hide zp
      clear hpl hp hu zp hF
      go_upto_region 7 with fail
      go_upto_region 8 with (at_builtin; refine wpList_sapp slStr rfl (.tmp 22) (.tmp 24) rfl (g := W) (S := (S9.box #[.string (S t)] 9 rfl).bring 1) rfl (Src.block (heap_alloc_new _ _) 1 1 rfl) rfl (by simp [Value.oneCell']) (by unfold maxLen; omega) (by omega) ?_; intro A9 c9 w9 S10)
      have S11 : Sat W w9 (jS ps :: jR (.slice (some adp) ps.length c6) ps :: rowA 9 1 (.slice A9 (T.length + 1) c9) (T ++ [t]).length (Ss (T ++ [t])) :: rowA 35 8 (.slice (some ad) qs.length c2) qs.length (qs.flatMap cqL) :: L) := by
        have e1 : (T ++ [t]).length = T.length + 1 := by simp
        have e2 : Ss (T ++ [t]) = Ss T ++ [.string (S t)] := by simp [Ss]
        rw [e1, e2]
        exact (((S10.bring 1).drop.bring 1).bring 2)
      obtain ⟨adq, u2, eq2, hu2, zq⟩ := Src.at_ (S11.bring 1).srcOf (k := T.length) (by omega)
      cases eq2
      rw [List.getElem?_map, HP.out] at hu2
      cases hu2
      have hcl := fun (w' : World) (hk : Keeps (fun _ => False) w9 w') => s_clonest ((S11.jAt HP.out).keep hk) hf9
      have HCL := hide hcl
      have zq' : w9.cell? (adp.add T.length) = some (ptr sb9) := zq
      clear S8 S9 S10 hcl HZ zq
      go_wp2_with fail
      refine (HCL.out _ (Keeps.refl _ _)).mono ?_
      rintro e w12 ⟨b2, u9, rfl, hr9u, hf9u, S12⟩
      have S13 : Sat W w12 (stateA b2 u9 :: jS ps :: jR (.slice (some adp) ps.length c6) ps :: rowA 9 1 (.slice A9 (T.length + 1) c9) (T ++ [t]).length (Ss (T ++ [t])) :: rowA 35 8 (.slice (some ad) qs.length c2) qs.length (qs.flatMap cqL) :: L) := (((S12.bring 2).bring 2).jBack HP.out).p1
      have hsay := s_sayst S13 HG0.out (by simp [hm]) HT0.out hf9u (by omega) (t := t) (by omega)
      have HNX := hide (HF.out.next hTb htl HP.out hr9u hf9u b2)
      clear S11 S12 HCL zq' hr9u hf9u hr9 hf9
      generalize applyF u9 t = X at *
      obtain ⟨⟨r1, r2, r3, r4⟩, x9⟩ := X
      simp only at hsay HNX
      go_wp2_with fail
      refine hsay.mono ?_
      rintro e w14 ⟨A14, c14, rfl, S14⟩
      have S15 : Sat W w14 (stateA b2 x9 :: jS ps :: jR (.slice (some adp) ps.length c6) ps :: rowA 9 1 (.slice A9 (T.length + 1) c9) (T ++ [t]).length (Ss (T ++ [t])) :: rowA 35 8 (.slice (some ad) qs.length c2) qs.length (qs.flatMap cqL) :: L) := S14.drop
      clear S13 S14 hsay
      go_upto_region 10 with fail
      go_wp2_with (at_builtin; refine wpList_sapp slSt rfl (.tmp 36) (.tmp 38) rfl (g := W) (S := (S15.box #[ptr b2] 43 rfl).bring 3) rfl (Src.block (heap_alloc_new _ _) 1 1 rfl) rfl (by simp [Value.oneCell']) (by unfold maxLen; omega) (by omega) ?_; intro A16 c16 w16 S16)
      have S17 : Sat W w16 (rowA 9 1 (.slice A9 (T.length + 1) c9) (T ++ [t]).length (Ss (T ++ [t])) :: jR (.slice A16 (ps.length + 1) c16) (ps ++ [(b2, x9)]) :: jS (ps ++ [(b2, x9)]) :: rowA 35 8 (.slice (some ad) qs.length c2) qs.length (qs.flatMap cqL) :: L) := by
        have e3 : (ps ++ [(b2, x9)]).length = ps.length + 1 := by simp
        have e4 : ((ps ++ [(b2, x9)]).map fun p : Nat × StT => ptr p.1) = (ps.map fun p => ptr p.1) ++ [ptr b2] := by simp
        unfold jR
        rw [e3, e4]
        exact (((((S16.bring 1).drop.bring 2).bring 2).jSnoc.bring 1).bring 2)
      have HS17 := hide S17
      have e1 : (T ++ [t]).length = T.length + 1 := by simp
      have e2 : (ps ++ [(b2, x9)]).length = ps.length + 1 := by simp
      clear S15 S16 S17
      go_roundw
      case rel => exact ⟨T.length + 1, T ++ [t], A9, A16, c9, c16, ps ++ [(b2, x9)], by omega, by go_num, e1, HNX.out, by rw [e1], by rw [e2], by rw [e2]; simp only [e1]; exact e1 ▸ HS17.out⟩
      case measure => simp [RowKit.intOf]; omega
    · have hTl : T.length = qs.length := by omega
      have S6 := (S5.bring 3).drop
      have HTL : Hid (T.length = qs0.length + 3) := hide (by rw [hTl, HL0.out])
      have hnl : ¬ ((T.length : Int) < (qs0.length : Int) + 3) := by have := HL0.out; omega
      clear S5 hF hTl hk
      go_wp2_with fail
      go_ret2
      exact ⟨T, A5, A6, c5, c6, ps, rfl, HTL.out, HF.out, S6⟩
end Go.Proofs.YtanlobdidjednaaGreatDoor
