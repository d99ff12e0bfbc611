/- What the judge is told of entries, walked. No condition. -/
import Derived.Test.YtanlobdidjednaaGreatDoorJuC
set_option linter.unusedVariables false
set_option linter.unusedSimpArgs false
namespace Go.Proofs.YtanlobdidjednaaGreatDoor
open Go.RowKit

section
variable {g w : World} {L : List Asn}
theorem Sat.jSnoc {ps : PsT} {sb : Nat} {x : StT} (S0 : Sat g w (stateA sb x :: jS ps :: L)) : Sat g w (jS (ps ++ [(sb, x)]) :: L) := by
  have S1 : Sat g w (stars (stp (sb, x) :: ps.map stp) :: L) := S0.restar
  refine S1.perm ?_
  rw [List.map_append]
  exact (List.perm_append_singleton _ _).symm
theorem tx_look {tb : Nat} {m : JTx} (S0 : Sat g w (mapA kI tW tb m :: L)) (k : Int) :
    (mget m k = none → (Instr.lookup 59 (.map (some tb)) (.int .i64 k) true).run Tryz.prog w = .ok (.tuple #[.string ⟨#[]⟩, .bool false]) w) ∧
    (∀ t, mget m k = some t → (Instr.lookup 59 (.map (some tb)) (.int .i64 k) true).run Tryz.prog w = .ok (.tuple #[.string (S t), .bool true]) w) :=
  ⟨fun h => S0.mapOf.look_none kT Tryz.underlying59 h (z := .string ⟨#[]⟩) (by kernel_rfl) true,
   fun t h => S0.mapOf.look_some kT Tryz.underlying59 h true⟩
theorem tx_upd {tb : Nat} {m : JTx} (S0 : Sat g w (mapA kI tW tb m :: L)) (k : Int) (t : List UInt8) :
    ∃ w', (Instr.mapUpdate 59 (.map (some tb)) (.int .i64 k) (.string (S t))).run Tryz.prog w = .ok () w' ∧ Sat g w' (mapA kI tW tb (mput m k t) :: L) := by
  obtain ⟨w6, hup, hm6, hk6⟩ := S0.mapOf.update kT Tryz.underlying59 k t
  exact ⟨w6, hup, S0.mapPut hk6 hm6⟩
end
theorem FitS.small {s : StT} {k n : Nat} (h : FitS s k n) : tabOk s.tab ∧ s.tab.length ≤ 16 ∧ s.book.es.length ≤ 80 := by
  obtain ⟨M, n, hM, h8, h9⟩ := h.it
  exact ⟨hM.ok, hM.len, h.gd.es_len h.calm hM.len⟩

set_option maxRecDepth 100000 in
set_option maxHeartbeats 8000000 in
theorem commit_j {g w : World} {L : List Asn} {b : Nat} {m : JTx} {ss : List StT} {told wrong : Int} (S0 : Sat g w (judgeA b m ss told wrong :: L)) (hG : GL g) (hm : oldA g ∈ L) (hT : TabE g) (hJ : JOk m ss) (hfull : mget m (ss.length : Int) = none)
    (i : Int) (t : List UInt8) (ht : t.length ≤ 1000000) (hl : m.length ≤ 60) :
    Calls Tryz.prog 8 #[ptr b, .int .i64 i, .string (S t)] w fun e w' => ∃ m2 ss2 wr2 r, e = .returned (.bool r) ∧ JOk m2 ss2 ∧ mget m2 (ss2.length : Int) = none ∧
      ((mget m i = none ∧ m2 = mput m i t ∧ wr2 = wrong ∧ r = true) ∨ (∃ t', mget m i = some t' ∧ m2 = m ∧ ss2 = ss ∧ wr2 = (if t' = t then wrong else 6) ∧ r = decide (t' = t))) ∧ Sat g w' (judgeA b m2 ss2 told wr2 :: L) := by
  have HG0 := hide hG
  have HT0 := hide hT
  clear hG hT
  obtain ⟨tb, eb, A, c, ps, hps, hpl, S1⟩ := S0.judgeOpen
  have x0 := S1.cell 0 _ rfl
  have hlk := tx_look (S1.bring 1) i
  cases hi : mget m i with
  | some t' =>
    have hlk2 := hlk.2 t' hi
    have HJ := hide hJ
    have HF := hide hfull
    clear hlk hi S1 hJ hfull
    have hb := j_bad S0 (!(t' == t))
    go_enter Tryz.func8, Tryz.ntmps8
    go_wp2_with fail
    refine hb.mono ?_
    rintro e w1 ⟨rfl, S2⟩
    clear S0 x0 hlk2 hb
    go_wp2_with fail
    go_ret
    exact ⟨m, ss, _, decide (t' = t), by by_cases he : t' = t <;> simp [he], HJ.out, HF.out, .inr ⟨t', rfl, rfl, rfl, by by_cases he : t' = t <;> simp [he], rfl⟩, S2⟩
  | none =>
    have hlk1 := hlk.1 hi
    obtain ⟨w2, hup, S2⟩ := tx_upd (S1.bring 1) i t
    have hJ2 := hJ.put hi (by omega) ht
    have S3 : Sat g w2 (judgeA b (mput m i t) ss told wrong :: L) := (S2.p1).judgeShut hps
    clear hlk hi S0 S1 S2 hJ hfull ht
    have hml : (mput m i t).length ≤ 61 := by rw [length_mput]; split <;> omega
    generalize hm2 : mput m i t = m2 at *
    have HM2 := hide hm2
    clear hm2
    obtain ⟨mu, hmu1, hmu2⟩ := least_fn (fun k wr => ∃ ss', JOk m2 ss' ∧ m2.length + 1 - ss'.length = k ∧ Sat g wr (judgeA b m2 ss' told wrong :: L))
    go_enter Tryz.func8, Tryz.ntmps8
    go_wp2_with fail
    clear x0 hlk1 hup
    go_loopw [] (fun wr => ∃ (k : Nat) (ss' : List StT), JOk m2 ss' ∧ m2.length + 1 - ss'.length = k ∧ Sat g wr (judgeA b m2 ss' told wrong :: L)) (fun wr => mu wr)
    case atStart => exact ⟨_, ss, hJ2, rfl, S3⟩
    case round =>
      have hk0 := hmu1 wr hrel
      clear hrel S3 hmu1 hJ2 hps hpl
      obtain ⟨ss', hJ', hlen, S10⟩ := hk0
      have HMU := hide (fun k wx (h : ∃ ss', JOk m2 ss' ∧ m2.length + 1 - ss'.length = k ∧ Sat g wx (judgeA b m2 ss' told wrong :: L)) => hmu2 k wx h)
      clear hmu2
      obtain ⟨tb', eb', A', c', ps', hps', hpl', S11⟩ := S10.judgeOpen
      have hlen1 := hJ'.len
      have hpos := hJ'.pos
      obtain ⟨n, hn⟩ : ∃ n, ps'.length = n + 1 := ⟨ps'.length - 1, by omega⟩
      have x0 := S11.cell 0 _ rfl
      have x1 := S11.cell 1 _ rfl
      have x0' := S11.drew.cell 0 _ rfl
      have x1' := S11.drew.cell 1 _ rfl
      have hlk := tx_look (S11.bring 1) (ps'.length : Int)
      have hlk' := tx_look (S11.drew.bring 1) (ps'.length : Int)
      have hle0 : ((ss'.length : Nat) : Int) = ((ps'.length : Nat) : Int) := by rw [hpl']
      cases hi2 : mget m2 (ps'.length : Int) with
      | none =>
        have hl1 := hlk.1 hi2
        have hl1' := hlk'.1 hi2
        have HI2 := hide hi2
        have HJ2 := hide hJ'
        have HS := hide S10
        have HPL := hide hpl'
        have hkq : ∀ w', Keeps (fun _ => False) wr w' → w'.cell? ⟨b, 0, none⟩ = some (.map (some tb')) ∧ w'.cell? ⟨b, 1, none⟩ = some (.slice A' ps'.length c') ∧ (Instr.lookup 59 (.map (some tb')) (.int .i64 (ps'.length : Int)) true).run Tryz.prog w' = .ok (.tuple #[.string ⟨#[]⟩, .bool false]) w' := fun w' hk => ⟨(S11.keep hk).cell 0 _ rfl, (S11.keep hk).cell 1 _ rfl, (tx_look ((S11.keep hk).bring 1) _).1 hi2⟩
        have HKQ := hide hkq
        clear hlk hlk' hi2 hJ' S10 S11 hlen hpl' hn hle0 hkq
        go_wp2_with fail
        go_region_held3 (fun v' => v'.cell? ⟨b, 0, none⟩ = some (.map (some tb')) ∧ v'.cell? ⟨b, 1, none⟩ = some (.slice A' ps'.length c') ∧ (Instr.lookup 59 (.map (some tb')) (.int .i64 (ps'.length : Int)) true).run Tryz.prog v' = .ok (.tuple #[.string ⟨#[]⟩, .bool false]) v') (first
          | (go_keep; done)
          | exact HKQ.out _ (by (repeat (first | exact Keeps.refl _ _ | refine Keeps.alloc ?_ _ | refine Keeps.drew ?_ | refine Keeps.drewN ?_ _)))) (first
          | fail)
        go_wp2_with fail
        go_ret
        exact ⟨m2, ss', wrong, true, rfl, HJ2.out, by rw [← HPL.out]; exact HI2.out, .inl ⟨by trivial, rfl, rfl, rfl⟩, HS.out.keep (by (repeat (first | exact Keeps.refl _ _ | refine Keeps.alloc ?_ _ | refine Keeps.drew ?_ | refine Keeps.drewN ?_ _)))⟩
      | some t2 =>
        have hl1 := hlk.2 t2 hi2
        have hl1' := hlk'.2 t2 hi2
        have hw1 : IntKind.i64.wrap ((ps'.length : Int) - 1) = (n : Int) := by rw [IntWalk.i64_in _ ⟨by omega, by omega⟩]; omega
        obtain ⟨ad, u, rfl, hu, z0⟩ := Src.at_ (S11.bring 2).srcOf (k := n) (by omega)
        obtain ⟨⟨sb, s9⟩, hp, rfl⟩ : ∃ p : Nat × StT, ps'[n]? = some p ∧ u = ptr p.1 := by
          rw [List.getElem?_map] at hu
          cases hp : ps'[n]? with
          | none => rw [hp] at hu; cases hu
          | some p => rw [hp] at hu; injection hu with hu; exact ⟨p, rfl, hu.symm⟩
        have hs9 : ss'[ss'.length - 1]? = some s9 := by rw [← hpl', hn, Nat.add_sub_cancel, ← hps', List.getElem?_map, hp]; rfl
        obtain ⟨hrel9, hfit9⟩ := hJ'.st _ _ hs9
        have hnx := fun (c : StT) (hr : RelS s9 c) (hf : FitS c (1 + 8 * (ss'.length - 1)) (ss'.length - 1)) => hJ'.next (t := t2) (by rw [← hpl']; exact hi2) hs9 hr hf
        have htl2 := hJ'.tl _ (mget_mem hi2)
        have hml2 := hJ'.ml
        have HNX0 := hide hnx
        have hcl := fun (w' : World) (hk : Keeps (fun _ => False) wr w') => s_clonest (((S11.bring 3).jAt hp).keep hk) hfit9
        have HCL := hide hcl
        have HIX := hide hp
        have hkeep : ∀ (w' : World) (L' : List Asn), Sat g w' L' → jC b tb' (.slice (some ad) ps'.length c') eb' told wrong ∈ L' → jR (.slice (some ad) ps'.length c') ps' ∈ L' → w'.cell? ⟨b, 1, none⟩ = some (.slice (some ad) ps'.length c') ∧ w'.cell? (ad.add n) = some (ptr sb) := fun w' L' S' h1 h2 => ⟨S'.cell_of h1 1 _ rfl, by
          obtain ⟨L3, S3⟩ := S'.mem_ h2
          obtain ⟨ad2, u2, e2, hu2, z2⟩ := Src.at_ S3.srcOf (k := n) (by omega)
          cases e2
          rw [List.getElem?_map, hp] at hu2
          cases hu2
          exact z2⟩
        have HKP := hide hkeep
        have HS11 := hide S11
        have hnlt : (n : Int) < (ps'.length : Int) := by omega
        have hkq : ∀ w', Keeps (fun _ => False) wr w' → w'.cell? ⟨b, 0, none⟩ = some (.map (some tb')) ∧ w'.cell? ⟨b, 1, none⟩ = some (.slice (some ad) ps'.length c') ∧ (Instr.lookup 59 (.map (some tb')) (.int .i64 (ps'.length : Int)) true).run Tryz.prog w' = .ok (.tuple #[.string (S t2), .bool true]) w' := fun w' hk => ⟨(S11.keep hk).cell 0 _ rfl, (S11.keep hk).cell 1 _ rfl, (tx_look ((S11.keep hk).bring 1) _).2 _ hi2⟩
        have HKQ := hide hkq
        have HPL := hide hpl'
        have HHN := hide hn
        have hbnd : ps'.length ≤ 100 := by omega
        clear hlk hlk' hi2 hJ' hu hnx hcl hkeep hrel9 hfit9 hs9 hp S10 hkq hpl' hn hle0
        go_wp2_with fail
        go_region_held3 (fun v' => v'.cell? ⟨b, 0, none⟩ = some (.map (some tb')) ∧ v'.cell? ⟨b, 1, none⟩ = some (.slice (some ad) ps'.length c') ∧ (Instr.lookup 59 (.map (some tb')) (.int .i64 (ps'.length : Int)) true).run Tryz.prog v' = .ok (.tuple #[.string (S t2), .bool true]) v') (first
          | (go_keep; done)
          | exact HKQ.out _ (by (repeat (first | exact Keeps.refl _ _ | refine Keeps.alloc ?_ _ | refine Keeps.drew ?_ | refine Keeps.drewN ?_ _)))) (first
          | fail)
        go_wp2_with fail
        go_region_held3 (fun v' => v'.cell? ⟨b, 1, none⟩ = some (.slice (some ad) ps'.length c') ∧ v'.cell? (ad.add n) = some (ptr sb)) (first
          | (go_keep; done)
          | exact HKP.out _ _ (Sat.keep S12 (by (repeat (first | exact Keeps.refl _ _ | refine Keeps.alloc ?_ _ | refine Keeps.drew ?_ | refine Keeps.drewN ?_ _)))) (by simp) (by simp)
          | exact HKP.out _ _ (Sat.keep HS11.out (by (repeat (first | exact Keeps.refl _ _ | refine Keeps.alloc ?_ _ | refine Keeps.drew ?_ | refine Keeps.drewN ?_ _)))) (by simp) (by simp)) (first
          | (go_at_call 19; refine (HCL.out _ (by (repeat (first | exact Keeps.refl _ _ | refine Keeps.alloc ?_ _ | refine Keeps.drew ?_ | refine Keeps.drewN ?_ _)))).mono ?_; rintro e w9 ⟨b2, u9, rfl, hr9, hf9, S12⟩; obtain ⟨y0, y1⟩ := HKP.out _ _ S12 (by simp) (by simp)))
        have HNX := hide (HNX0.out u9 hr9 hf9)
        have S13 : Sat g w9 (stateA b2 u9 :: jS ps' :: jC b tb' (.slice (some ad) ps'.length c') eb' told wrong :: mapA kI tW tb' m2 :: jR (.slice (some ad) ps'.length c') ps' :: evsA eb' (2000 * ss'.length) :: L) := (((S12.bring 2).bring 2).jBack HIX.out).p1
        have hst := hf9.step (by omega) (by omega) t2
        have hsay := s_sayst S13 HG0.out (by simp [hm]) HT0.out hf9 (by omega) (t := t2) (by omega)
        clear S11 S12 x0 x1 x0' x1' hl1 hl1' y0 y1 HKQ HNX0 HCL z0 hr9 hf9
        generalize applyF u9 t2 = X at *
        obtain ⟨⟨r1, r2, r3, r4⟩, x9⟩ := X
        simp only at hsay hst HNX
        go_wp2_with fail
        refine hsay.mono ?_
        rintro e w10 ⟨A10, c10, rfl, S14⟩
        have S15 := ((S14.drop.bring 5).bring 3)
        have hh := hear_j S15 hst.small.1 hst.small.2.1 hst.small.2.2 (by omega)
        clear S13 S14 hsay hst
        go_wp2_with fail
        refine hh.mono ?_
        rintro e w9 ⟨rfl, S9⟩
        have x1 := S9.cell 1 _ rfl
        have x1' := S9.drew.cell 1 _ rfl
        have x2 := S9.cells_fz 1
        have x1'' := ((S9.box #[ptr b2] 43 rfl).drew.bring 1).cell 1 _ rfl
        clear S15 hh
        clear x1' x1''
        go_upto_region 11 with fail
        go_wp2_with (at_builtin; refine wpList_sapp slSt rfl (.tmp 71) (.tmp 73) rfl (g := g) (S := (S9.box #[ptr b2] 43 rfl).bring 6) rfl (Src.block (heap_alloc_new _ _) 1 1 rfl) rfl (by simp [Value.oneCell']) (by unfold maxLen; omega) (by omega) ?_; intro A8 c8 w10 S10; have k0 := (S10.bring 2).cell 1 _ rfl; have k1 := (S10.bring 2).cells_fz 1)
        have S11 := (((S10.bring 2).setc 1 (.slice A8 (ps'.length + 1) c8)).bring 2).drop
        have S12 := ((((S11.bring 4).bring 4).jSnoc.bring 2).bring 4).bring 3
        have S13 : Sat g (w10.setCell ⟨b, 1, none⟩ (.slice A8 (ps'.length + 1) c8)) (jC b tb' (.slice A8 (ps'.length + 1) c8) eb' told wrong :: mapA kI tW tb' m2 :: jR (.slice A8 (ps'.length + 1) c8) (ps' ++ [(b2, x9)]) :: jS (ps' ++ [(b2, x9)]) :: evsA eb' (2000 * (ss' ++ [x9]).length) :: L) := by
          have e1 : 2000 * (ss' ++ [x9]).length = 2000 * ss'.length + 2000 := by simp; omega
          rw [e1]
          unfold jR
          rw [List.length_append, List.length_singleton, List.map_append, List.map_singleton]
          exact S12
        have HS13 := hide (S13.judgeShut (ss := ss' ++ [x9]) (by rw [List.map_append, List.map_singleton, hps']))
        clear S9 S10 S11 S12 S13
        have hle := HMU.out (m2.length + 1 - (ss' ++ [x9]).length) _ ⟨_, HNX, rfl, HS13.out⟩
        go_roundw
        case rel => exact ⟨_, _, HNX, rfl, HS13.out⟩
        case measure =>
          have e2 : (ss' ++ [x9]).length = ss'.length + 1 := by simp
          have e3 := HNX.len
          rw [e2] at hle e3
          omega
end Go.Proofs.YtanlobdidjednaaGreatDoor
