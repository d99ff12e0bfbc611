/- The statement JudgeAnswers: for every input the law answers true, and the input reads as it did. No condition. -/
import Derived.Test.YtanlobdidjednaaGreatDoorRows
import Derived.Test.YtanlobdidjednaaGreatDoorJuT
import Derived.Test.YtanlobdidjednaaGreatDoorOpen
import Derived.Test.YtanlobdidjednaaGreatDoorHand
import Derived.Test.YtanlobdidjednaaGreatDoorFacts
import Derived.Test.YtanlobdidjednaaGreatDoorCards
import Derived.Test.YtanlobdidjednaaGreatDoorTie
import Derived.Test.YtanlobdidjednaaGreatDoorShelf
set_option linter.unusedVariables false
set_option maxRecDepth 100000
namespace Go.Proofs.YtanlobdidjednaaGreatDoor.lawJudgeAnswers
open Go.ChangeShapes Go.WideShapes Go.ChangeAt Go.RowKit
open Go.ChangeMaps (open_string shut_string)
theorem own : ownKnob Tryz.prog.godebug = none := fact_own
theorem laidOut : laidOutB Tryz.prog = true := fact_laidOut

theorem laidMet_tail {P : Program} {w : World} {n : String} {d : DataW Unit} {r : List (String × DataW Unit)} (h : laidMet P ((n, d) :: r) w) : laidMet P r w := by
  obtain ⟨ps, ⟨g, t, cs, fuel, p, q, _, _, _, _, hr, rfl⟩, hn, hm⟩ := h
  exact ⟨q, hr, (List.nodup_append.1 hn).2.1, fun b off hb => hm b off (List.mem_append_right _ hb)⟩

set_option maxRecDepth 100000 in
theorem lifted (os : Os) (started : os.Started) (H : Type) (enc : TypeId × Value → H) :
    ReturnsInHanded {} Tryz.checked os 3 .any (fun w args => (Rows.judgeAnswersSpec.pre enc Tryz.prog Tryz.f3 [] false w args ∧ laidMetH Tryz.prog Rows.judgeAnswersRow.laid w) ∧ sizedMet enc Tryz.prog Tryz.f3 (OpenSpec.ofChange Rows.judgeAnswersSpec) false w args) (Rows.judgeAnswersSpec.post enc Tryz.prog Tryz.f3 false true false false) := by
  refine handed_all (C := Tryz.checked) (X := fun w _ => laidMetH Tryz.prog Rows.judgeAnswersRow.laid w) (fun _ _ _ hh h => h.of_heap hh) own started (by kernel_rfl) Tryz.func3
    (ChangeSpec.witness_shaped (enc := enc) (C := Tryz.checked) (os := os) (X := fun w _ => laidMetH Tryz.prog Rows.judgeAnswersRow.laid w) false (World.laidAll Tryz.prog os Rows.judgeAnswersRow.laid) #[.slice none 0 0, .int .i64 0, .int .i64 0] 8 (World.laidAll_os _ _ _)
      (World.shaped_of_ZipB (by kernel_rfl) (by kernel_rfl)) (by kernel_rfl) (by kernel_rfl) (by kernel_rfl)
      (by rw [MakeChecks.laidMetH_plain _ _ _ (by kernel_rfl)]; exact laidMet_laidAll _ (by kernel_rfl) (by kernel_rfl))) ?_
  intro W base args ds gs before hval0 hW hcnd _ hL hsh _
  have hval : ∀ (j : Nat) t v, Tryz.f3.params[j]? = some t → args[j]? = some v → Value.okWide Tryz.prog W .any base t v := hval0
  have hW' := hW
  obtain ⟨p, q, hA0, hV, rfl, hfz, hnd⟩ := hW
  have hA : DataW.TrodAll enc Tryz.prog W 0 (fun _ => true) true Tryz.f3.params.toList args.toList ds p := hA0
  rw [Tryz.params3] at hA hval
  obtain ⟨v0, vs0, d0, ds0, p0, q0, hargs, rfl, rfl, h0, r0⟩ := trodAll_cons hA
  obtain ⟨v1, vs1, d1, ds1, p1, q1, rfl, rfl, rfl, h1, r1⟩ := trodAll_cons r0
  obtain ⟨v2, vs2, d2, ds2, p2, q2, rfl, rfl, rfl, h2, r2⟩ := trodAll_cons r1
  obtain ⟨rfl, rfl, rfl⟩ := trodAll_nil r2
  obtain rfl : args = #[v0, v1, v2] := by cases args; simp_all
  obtain ⟨rfl, rfl⟩ := trodVars_none hV
  have k0 := h0
  have lt0 : ∀ x ∈ p0, x.block < W.heap.size := by obtain ⟨m, hm⟩ := k0; exact DataW.trod_lt m _ _ _ hm
  have k1 := h1
  have lt1 : ∀ x ∈ p1, x.block < W.heap.size := by obtain ⟨m, hm⟩ := k1; exact DataW.trod_lt m _ _ _ hm
  have k2 := h2
  have lt2 : ∀ x ∈ p2, x.block < W.heap.size := by obtain ⟨m, hm⟩ := k2; exact DataW.trod_lt m _ _ _ hm
  obtain ⟨A0, c0, a0, rfl, s0, g0, l0⟩ := par_slice Tryz.underlying22 (hval 0 22 v0 rfl rfl) (dec_cmd) h0
  rw [show Tryz.prog.cellsOf 35 = 8 from by kernel_rfl, flat_cq] at s0
  obtain ⟨a1, rfl, b1⟩ := par_int Tryz.underlying3 (hval 1 3 v1 rfl rfl) h1
  obtain ⟨a2, rfl, b2⟩ := par_int Tryz.underlying3 (hval 2 3 v2 rfl rfl) h2
  have hT : TabE W := by
    have hL' : laidMet Tryz.prog Rows.judgeAnswersRow.laid W := by rw [← MakeChecks.laidMetH_plain _ _ _ (by kernel_rfl)]; exact hL
    exact Lib.tabIs_of_head (g := 3) (t := 260) (e := 135) (n := 20) (by kernel_rfl) (by kernel_rfl) Tryz.underlying260 Tryz.underlying135 (by kernel_rfl) (by kernel_rfl) (laidMet_tail (laidMet_tail hL'))
  clear hA0 hval0
  refine (janswers_walk W (Tryz.laysM146.s1_3 W hsh) hT A0 a0 c0 a1 a2 s0 (fun q hq => ⟨(g0 q hq).1, (g0 q hq).2.1⟩) l0).mono fun e W' ⟨he, hk⟩ => ?_
  subst he
  have bel : Below W.heap.size W W' := hk.below (Nat.le_refl _) (fun k hk h => by omega)
  exact ⟨_, rfl, _, _, _, [], _, [], hW', trodAll_mk1 (shut_bool Tryz.underlying4 _), (trodAll_cons_mk (Below.trod laidOut (by kernel_rfl) (of_decide_eq_true (by kernel_rfl)) k0 bel lt0) (trodAll_cons_mk (Below.trod laidOut (by kernel_rfl) (of_decide_eq_true (by kernel_rfl)) k1 bel lt1) (trodAll_cons_mk (Below.trod laidOut (by kernel_rfl) (of_decide_eq_true (by kernel_rfl)) k2 bel lt2) trodAll_mk0))), rfl, bel.frame _, fun h => by cases h⟩
theorem k0 : (Rows.judgeAnswersRow.wf (OpenSpec.ofChange Rows.judgeAnswersSpec)) = true := by kernel_rfl
theorem k1 : (laidOutB Tryz.prog) = true := fact_laidOut
theorem k2 : (mapsRowed Tryz.prog) = true := fact_mapsRowed
theorem k3 : (Tryz.f3.params.all (Tryz.prog.readableRec ·)) = true := by kernel_rfl
theorem k4 : (namedTie Tryz.prog Rows.judgeAnswersRow.named Rows.judgeAnswersSpec.vars) = true := by kernel_rfl
theorem k5 : ((Rows.judgeAnswersRow.stops == [])) = true := by kernel_rfl
theorem k6 : ((Tryz.prog.stops == [])) = true := fact_stops
theorem k7 : ((Rows.judgeAnswersRow.knobs == [])) = true := by kernel_rfl
theorem k8 : ((Tryz.prog.stopKnobs == [])) = true := fact_knobs
theorem k9 : ((Rows.judgeAnswersRow.inPlace == Tryz.prog.inPlace 3)) = true := by kernel_rfl
theorem k10 : ((Rows.judgeAnswersRow.unfollowed == Tryz.prog.unfollowed 3)) = true := by kernel_rfl
theorem k11 : ((Rows.judgeAnswersRow.recurses == Tryz.prog.recurses 3)) = true := by kernel_rfl
theorem k12 : ((Rows.judgeAnswersRow.named == Tryz.prog.varsNamed 3)) = true := by kernel_rfl
theorem k13 : ((Rows.judgeAnswersRow.maps == (Tryz.f3.params.toList ++ Rows.judgeAnswersSpec.plain.varTypes Tryz.prog).any (Tryz.prog.mapsRec ·))) = true := by kernel_rfl
theorem k14 : ((Rows.judgeAnswersRow.ifaces == (Tryz.f3.params.toList ++ Rows.judgeAnswersSpec.plain.varTypes Tryz.prog).any (Tryz.prog.ifacesRec ·))) = true := by kernel_rfl
theorem k15 : ((Rows.judgeAnswersRow.mapsOut == Tryz.prog.mapsAmong Tryz.f3.resultTypes.toList)) = true := by kernel_rfl
theorem k16 : ((Rows.judgeAnswersRow.loops == (Tryz.f3.params.toList ++ Rows.judgeAnswersSpec.plain.varTypes Tryz.prog).any (Tryz.prog.loopsFrom ·))) = true := by kernel_rfl
theorem k17 : ((Rows.judgeAnswersRow.wideKeys == (Tryz.f3.params.toList ++ Rows.judgeAnswersSpec.plain.varTypes Tryz.prog ++ Tryz.f3.resultTypes.toList).any (Tryz.prog.wideKeysFrom ·))) = true := by kernel_rfl
theorem k18 : (Rows.judgeAnswersSpec.vars.all (Tryz.prog.varReadable ·)) = true := by kernel_rfl
theorem k19 : (Tryz.f3.resultTypes.all (fun t => Tryz.prog.readableRec t && decide (t < Tryz.prog.types.size))) = true := by kernel_rfl
theorem k20 : ((Rows.judgeAnswersRow.ifacesOut == Tryz.f3.resultTypes.toList.any (Tryz.prog.ifacesRec ·))) = true := by kernel_rfl
theorem k21 : ((Rows.judgeAnswersRow.loopsOut == Tryz.f3.resultTypes.toList.any (Tryz.prog.loopsFrom ·))) = true := by kernel_rfl
theorem k22 : ((Rows.judgeAnswersRow.plainKeys == Tryz.prog.plainKeys)) = true := fact_plainKeys
theorem k23 : (Rows.judgeAnswersRow.shortTexts.isNone) = true := by kernel_rfl
theorem k24 : (Tryz.prog.stopsHeard) = true := fact_heard
theorem k25 : (Tryz.prog.mayEnter) = true := fact_mayEnter
theorem k26 : ((Rows.judgeAnswersRow.lifted == Tryz.prog.liftsFinal)) = true := fact_lifts
theorem k27 : ((Tryz.prog.make == some Rows.judgeAnswersRow.make)) = true := fact_make
theorem k28 : ((Rows.judgeAnswersRow.kinds == (if Rows.judgeAnswersRow.domain.isEmpty then [] else Tryz.f3.params.toList.map fun t => match Tryz.prog.underlying t with | some (.int k) => some k | _ => none))) = true := by kernel_rfl
theorem k29 : ((Rows.judgeAnswersRow.pinned == Rows.judgeAnswersRow.pinnedBy)) = true := by kernel_rfl
theorem k30 : ((Rows.judgeAnswersRow.veiled == (Tryz.f3.params.toList ++ Rows.judgeAnswersSpec.plain.varTypes Tryz.prog ++ Tryz.f3.resultTypes.toList).any (Tryz.prog.veiledRec ·))) = true := by kernel_rfl
theorem k31 : (Rows.judgeAnswersRow.veiledFits Tryz.prog Tryz.f3.params.toList (Tryz.f3.params.toList ++ Rows.judgeAnswersSpec.plain.varTypes Tryz.prog ++ Tryz.f3.resultTypes.toList)) = true := by kernel_rfl
theorem kf : Tryz.prog.funcNamed Rows.judgeAnswersRow.func = some 3 := by kernel_rfl
theorem ki : Tryz.f3.isInstance Tryz.prog Rows.judgeAnswersRow.origin Rows.judgeAnswersRow.targs := of_decide_eq_true (by kernel_rfl)
theorem kw : Tryz.f3.isWrapper Tryz.prog Rows.judgeAnswersRow.wrapper Rows.judgeAnswersRow.mainSum := by unfold Func.isWrapper; first | (rw [if_pos (by decide +kernel)]; kernel_rfl) | (rw [if_neg (by decide +kernel)]; exact ⟨rfl, rfl⟩)
theorem closed : joinedFacts Tryz.prog 3 Tryz.f3 Rows.judgeAnswersSpec Rows.judgeAnswersRow = true := joined_of k0 k1 k2 k3 k4 k5 k6 k7 k8 k9 k10 k11 k12 k13 k14 k15 k16 k17 k18 k19 k20 k21 k22 k23 k24 k25 k26 k27 k28 k29 k30 k31
theorem over : Rows.judgeAnswersRow.holds Tryz.pinned (OpenSpec.ofChange Rows.judgeAnswersSpec) :=
  OpenClaim.holds_of_wide 3 Tryz.f3 rfl rfl rfl rfl rfl rfl rfl ⟨rfl, rfl, rfl, rfl, rfl⟩ rfl rfl rfl rfl rfl kf Tryz.func3 closed ki kw (fun os started H enc _ => lifted os started H enc)

theorem cw : Rows.judgeAnswersRow.wfByText (OpenSpec.ofChange Rows.judgeAnswersSpec) = true := by kernel_rfl
theorem cm : Tryz.pinned.checked.prog.mainIs = some (Rows.judgeAnswersCard.stood.harness.1, Rows.judgeAnswersCard.stood.harness.2.toList) := fact_main
theorem cl : Rows.judgeAnswersCard.stood.looks = Tryz.prog.looks [] := fact_looks
theorem cs : ([22, 3, 3].all fun u => !Tryz.prog.wantsStandIn u) = true := by kernel_rfl
theorem cg : false = Rows.judgeAnswersRow.goesBy Tryz.prog := by kernel_rfl
theorem card_holds : Claim7.holds Tryz.pinned (.plain (OpenSpec.ofChange Rows.judgeAnswersSpec)) Rows.judgeAnswersCard :=
  Claim7.holds_tied_plain_at .later [] _ true Rows.judgeAnswersCard.stood.harness Rows.judgeAnswersCard.stood.looks over (fun _ h => by cases h) cw (fun _ h => by cases h) judgeAnswers_row_tie rfl ⟨rfl, rfl⟩ cm rfl
    (fun f fn hf hfn => by
      obtain rfl : f = 3 := Option.some.inj (kf.symm.trans hf) |>.symm
      obtain rfl : fn = Tryz.f3 := (Option.some.inj (Tryz.func3.symm.trans hfn)).symm
      exact ⟨cl, fun j t ht => by
        rw [Tryz.params3] at ht
        have hm : t ∈ [22, 3, 3] := by simpa using Array.mem_of_getElem? ht
        exact (show Tryz.prog.wantsStandIn t = false by simpa using List.all_eq_true.1 cs t hm)⟩)
    cg

/-- the statement -/
theorem proved : Rows.JudgeAnswersCardSaid := card_holds
#print axioms proved
end Go.Proofs.YtanlobdidjednaaGreatDoor.lawJudgeAnswers
