/- The statement OpMade: for every input the law answers true, and the input reads as it did. No condition. -/
import Derived.Test.YtcnehacblodiaaaDoorRows
import Derived.Test.YtcnehacblodiaaaDoorOpMade
import Derived.Test.YtcnehacblodiaaaDoorDecOp
import Derived.Test.YtcnehacblodiaaaDoorHand
import Derived.Test.YtcnehacblodiaaaDoorFacts
import Derived.Test.YtcnehacblodiaaaDoorCards
import Derived.Test.YtcnehacblodiaaaDoorTie
import Derived.Test.YtcnehacblodiaaaDoorShelf
set_option linter.unusedVariables false
set_option maxRecDepth 100000
namespace Go.Proofs.YtcnehacblodiaaaDoor.lawOpMade
open Go.ChangeShapes Go.WideShapes Go.ChangeAt Go.RowKit
open Go.ChangeMaps (open_string shut_string)
theorem own : ownKnob Tryd.prog.godebug = none := fact_own
theorem laidOut : laidOutB Tryd.prog = true := fact_laidOut

set_option maxRecDepth 100000 in
theorem lifted (os : Os) (started : os.Started) (H : Type) (enc : TypeId × Value → H) :
    ReturnsInHanded {} Tryd.checked os 4 .any (fun w args => (Rows.opMadeSpec.pre enc Tryd.prog Tryd.f4 [] false w args ∧ laidMetH Tryd.prog Rows.opMadeRow.laid w) ∧ sizedMet enc Tryd.prog Tryd.f4 (OpenSpec.ofChange Rows.opMadeSpec) false w args) (Rows.opMadeSpec.post enc Tryd.prog Tryd.f4 false true false false) := by
  refine handed_all (C := Tryd.checked) (X := fun w _ => laidMetH Tryd.prog Rows.opMadeRow.laid w) (fun _ _ _ hh h => h.of_heap hh) own started (by kernel_rfl) Tryd.func4
    (ChangeSpec.witness_shaped (enc := enc) (C := Tryd.checked) (os := os) (X := fun w _ => laidMetH Tryd.prog Rows.opMadeRow.laid w) false (World.laidAll Tryd.prog os Rows.opMadeRow.laid) #[.int .i64 0, .int .i64 0, .slice none 0 0] 8 (World.laidAll_os _ _ _)
      (World.shaped_of_ZipB (by kernel_rfl) (by kernel_rfl)) (by kernel_rfl) (by kernel_rfl) (by kernel_rfl)
      (by rw [MakeChecks.laidMetH_plain _ _ _ (by kernel_rfl)]; exact laidMet_laidAll _ (by kernel_rfl) (by kernel_rfl))) ?_
  intro W base args ds gs before hval0 hW hcnd _ hL hsh _
  have hval : ∀ (j : Nat) t v, Tryd.f4.params[j]? = some t → args[j]? = some v → Value.okWide Tryd.prog W .any base t v := hval0
  have hW' := hW
  obtain ⟨p, q, hA0, hV, rfl, hfz, hnd⟩ := hW
  have hA : DataW.TrodAll enc Tryd.prog W 0 (fun _ => true) true Tryd.f4.params.toList args.toList ds p := hA0
  rw [Tryd.params4] at hA hval
  obtain ⟨v0, vs0, d0, ds0, p0, q0, hargs, rfl, rfl, h0, r0⟩ := trodAll_cons hA
  obtain ⟨v1, vs1, d1, ds1, p1, q1, rfl, rfl, rfl, h1, r1⟩ := trodAll_cons r0
  obtain ⟨v2, vs2, d2, ds2, p2, q2, rfl, rfl, rfl, h2, r2⟩ := trodAll_cons r1
  obtain ⟨rfl, rfl, rfl⟩ := trodAll_nil r2
  obtain rfl : args = #[v0, v1, v2] := by cases args; simp_all
  obtain ⟨rfl, rfl⟩ := trodVars_none hV
  have k0 := h0
  have lt0 : ∀ x ∈ p0, x.block < W.heap.size := by obtain ⟨m, hm⟩ := k0; exact DataW.trod_lt m _ _ _ hm
  have k1 := h1
  have lt1 : ∀ x ∈ p1, x.block < W.heap.size := by obtain ⟨m, hm⟩ := k1; exact DataW.trod_lt m _ _ _ hm
  have k2 := h2
  have lt2 : ∀ x ∈ p2, x.block < W.heap.size := by obtain ⟨m, hm⟩ := k2; exact DataW.trod_lt m _ _ _ hm
  obtain ⟨a0, rfl, b0⟩ := par_int Tryd.underlying3 (hval 0 3 v0 rfl rfl) h0
  obtain ⟨a1, rfl, b1⟩ := par_int Tryd.underlying3 (hval 1 3 v1 rfl rfl) h1
  obtain ⟨A2, c2, a2, rfl, s2, g2, l2⟩ := par_slice Tryd.underlying23 (hval 2 23 v2 rfl rfl) (dec_op) h2
  rw [show Tryd.prog.cellsOf 35 = 6 from by kernel_rfl] at s2
  clear hA0 hval0
  refine (made_walk W (Tryd.laysM146.s1_3 W hsh) a0 a1 A2 a2 c2 s2 l2 (fun o ho => (g2 o ho).1)).mono fun e W' ⟨he, hk⟩ => ?_
  subst he
  have bel : Below W.heap.size W W' := hk.below (Nat.le_refl _) (fun k hk h => by omega)
  exact ⟨_, rfl, _, _, _, [], _, [], hW', trodAll_mk1 (shut_bool Tryd.underlying4 _), (trodAll_cons_mk (Below.trod laidOut (by kernel_rfl) (of_decide_eq_true (by kernel_rfl)) k0 bel lt0) (trodAll_cons_mk (Below.trod laidOut (by kernel_rfl) (of_decide_eq_true (by kernel_rfl)) k1 bel lt1) (trodAll_cons_mk (Below.trod laidOut (by kernel_rfl) (of_decide_eq_true (by kernel_rfl)) k2 bel lt2) trodAll_mk0))), rfl, bel.frame _, fun h => by cases h⟩
theorem k0 : (Rows.opMadeRow.wf (OpenSpec.ofChange Rows.opMadeSpec)) = true := by kernel_rfl
theorem k1 : (laidOutB Tryd.prog) = true := fact_laidOut
theorem k2 : (mapsRowed Tryd.prog) = true := fact_mapsRowed
theorem k3 : (Tryd.f4.params.all (Tryd.prog.readableRec ·)) = true := by kernel_rfl
theorem k4 : (namedTie Tryd.prog Rows.opMadeRow.named Rows.opMadeSpec.vars) = true := by kernel_rfl
theorem k5 : ((Rows.opMadeRow.stops == [])) = true := by kernel_rfl
theorem k6 : ((Tryd.prog.stops == [])) = true := fact_stops
theorem k7 : ((Rows.opMadeRow.knobs == [])) = true := by kernel_rfl
theorem k8 : ((Tryd.prog.stopKnobs == [])) = true := fact_knobs
theorem k9 : ((Rows.opMadeRow.inPlace == Tryd.prog.inPlace 4)) = true := by kernel_rfl
theorem k10 : ((Rows.opMadeRow.unfollowed == Tryd.prog.unfollowed 4)) = true := by kernel_rfl
theorem k11 : ((Rows.opMadeRow.recurses == Tryd.prog.recurses 4)) = true := by kernel_rfl
theorem k12 : ((Rows.opMadeRow.named == Tryd.prog.varsNamed 4)) = true := by kernel_rfl
theorem k13 : ((Rows.opMadeRow.maps == (Tryd.f4.params.toList ++ Rows.opMadeSpec.plain.varTypes Tryd.prog).any (Tryd.prog.mapsRec ·))) = true := by kernel_rfl
theorem k14 : ((Rows.opMadeRow.ifaces == (Tryd.f4.params.toList ++ Rows.opMadeSpec.plain.varTypes Tryd.prog).any (Tryd.prog.ifacesRec ·))) = true := by kernel_rfl
theorem k15 : ((Rows.opMadeRow.mapsOut == Tryd.prog.mapsAmong Tryd.f4.resultTypes.toList)) = true := by kernel_rfl
theorem k16 : ((Rows.opMadeRow.loops == (Tryd.f4.params.toList ++ Rows.opMadeSpec.plain.varTypes Tryd.prog).any (Tryd.prog.loopsFrom ·))) = true := by kernel_rfl
theorem k17 : ((Rows.opMadeRow.wideKeys == (Tryd.f4.params.toList ++ Rows.opMadeSpec.plain.varTypes Tryd.prog ++ Tryd.f4.resultTypes.toList).any (Tryd.prog.wideKeysFrom ·))) = true := by kernel_rfl
theorem k18 : (Rows.opMadeSpec.vars.all (Tryd.prog.varReadable ·)) = true := by kernel_rfl
theorem k19 : (Tryd.f4.resultTypes.all (fun t => Tryd.prog.readableRec t && decide (t < Tryd.prog.types.size))) = true := by kernel_rfl
theorem k20 : ((Rows.opMadeRow.ifacesOut == Tryd.f4.resultTypes.toList.any (Tryd.prog.ifacesRec ·))) = true := by kernel_rfl
theorem k21 : ((Rows.opMadeRow.loopsOut == Tryd.f4.resultTypes.toList.any (Tryd.prog.loopsFrom ·))) = true := by kernel_rfl
theorem k22 : ((Rows.opMadeRow.plainKeys == Tryd.prog.plainKeys)) = true := fact_plainKeys
theorem k23 : (Rows.opMadeRow.shortTexts.isNone) = true := by kernel_rfl
theorem k24 : (Tryd.prog.stopsHeard) = true := fact_heard
theorem k25 : (Tryd.prog.mayEnter) = true := fact_mayEnter
theorem k26 : ((Rows.opMadeRow.lifted == Tryd.prog.liftsFinal)) = true := fact_lifts
theorem k27 : ((Tryd.prog.make == some Rows.opMadeRow.make)) = true := fact_make
theorem k28 : ((Rows.opMadeRow.kinds == (if Rows.opMadeRow.domain.isEmpty then [] else Tryd.f4.params.toList.map fun t => match Tryd.prog.underlying t with | some (.int k) => some k | _ => none))) = true := by kernel_rfl
theorem k29 : ((Rows.opMadeRow.pinned == Rows.opMadeRow.pinnedBy)) = true := by kernel_rfl
theorem k30 : ((Rows.opMadeRow.veiled == (Tryd.f4.params.toList ++ Rows.opMadeSpec.plain.varTypes Tryd.prog ++ Tryd.f4.resultTypes.toList).any (Tryd.prog.veiledRec ·))) = true := by kernel_rfl
theorem k31 : (Rows.opMadeRow.veiledFits Tryd.prog Tryd.f4.params.toList (Tryd.f4.params.toList ++ Rows.opMadeSpec.plain.varTypes Tryd.prog ++ Tryd.f4.resultTypes.toList)) = true := by kernel_rfl
theorem kf : Tryd.prog.funcNamed Rows.opMadeRow.func = some 4 := by kernel_rfl
theorem ki : Tryd.f4.isInstance Tryd.prog Rows.opMadeRow.origin Rows.opMadeRow.targs := of_decide_eq_true (by kernel_rfl)
theorem kw : Tryd.f4.isWrapper Tryd.prog Rows.opMadeRow.wrapper Rows.opMadeRow.mainSum := by unfold Func.isWrapper; first | (rw [if_pos (by decide +kernel)]; kernel_rfl) | (rw [if_neg (by decide +kernel)]; exact ⟨rfl, rfl⟩)
theorem closed : joinedFacts Tryd.prog 4 Tryd.f4 Rows.opMadeSpec Rows.opMadeRow = true := joined_of k0 k1 k2 k3 k4 k5 k6 k7 k8 k9 k10 k11 k12 k13 k14 k15 k16 k17 k18 k19 k20 k21 k22 k23 k24 k25 k26 k27 k28 k29 k30 k31
theorem over : Rows.opMadeRow.holds Tryd.pinned (OpenSpec.ofChange Rows.opMadeSpec) :=
  OpenClaim.holds_of_wide 4 Tryd.f4 rfl rfl rfl rfl rfl rfl rfl ⟨rfl, rfl, rfl, rfl, rfl⟩ rfl rfl rfl rfl rfl kf Tryd.func4 closed ki kw (fun os started H enc _ => lifted os started H enc)

theorem cw : Rows.opMadeRow.wfByText (OpenSpec.ofChange Rows.opMadeSpec) = true := by kernel_rfl
theorem cm : Tryd.pinned.checked.prog.mainIs = some (Rows.opMadeCard.stood.harness.1, Rows.opMadeCard.stood.harness.2.toList) := fact_main
theorem cl : true = Tryd.prog.looks [] := fact_looks
theorem cs : ([3, 3, 23].all fun u => !Tryd.prog.wantsStandIn u) = true := by kernel_rfl
theorem cg : false = Rows.opMadeRow.goesBy Tryd.prog := by kernel_rfl
theorem card_holds : Claim7.holds Tryd.pinned (.plain (OpenSpec.ofChange Rows.opMadeSpec)) Rows.opMadeCard :=
  Claim7.holds_tied_plain_at .later [] _ true Rows.opMadeCard.stood.harness true over (fun _ h => by cases h) cw (fun _ h => by cases h) opMade_row_tie rfl ⟨rfl, rfl⟩ cm rfl
    (fun f fn hf hfn => by
      obtain rfl : f = 4 := Option.some.inj (kf.symm.trans hf) |>.symm
      obtain rfl : fn = Tryd.f4 := (Option.some.inj (Tryd.func4.symm.trans hfn)).symm
      exact ⟨cl, fun j t ht => by
        rw [Tryd.params4] at ht
        have hm : t ∈ [3, 3, 23] := by simpa using Array.mem_of_getElem? ht
        exact (show Tryd.prog.wantsStandIn t = false by simpa using List.all_eq_true.1 cs t hm)⟩)
    cg

/-- the statement -/
theorem proved : Rows.OpMadeCardSaid := card_holds
#print axioms proved
end Go.Proofs.YtcnehacblodiaaaDoor.lawOpMade
