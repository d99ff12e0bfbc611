/- The statement ScriptReads: for every input the law answers true, and the input reads as it did. No condition. -/
import Derived.Test.YtegafdkhbgojcaaGreatDoorRows
import Derived.Test.YtegafdkhbgojcaaGreatDoorScR
import Derived.Test.YtegafdkhbgojcaaGreatDoorOpen
import Derived.Test.YtegafdkhbgojcaaGreatDoorHand
import Derived.Test.YtegafdkhbgojcaaGreatDoorFacts
import Derived.Test.YtegafdkhbgojcaaGreatDoorGoes
import Derived.Test.YtegafdkhbgojcaaGreatDoorCards
import Derived.Test.YtegafdkhbgojcaaGreatDoorTie
set_option linter.unusedVariables false
set_option maxRecDepth 100000
namespace Go.Proofs.YtegafdkhbgojcaaGreatDoor.lawScriptReads
open Go.ChangeShapes Go.WideShapes Go.ChangeAt Go.RowKit
open Go.ChangeMaps (open_string shut_string)
theorem own : ownKnob Tryz.prog.godebug = none := fact_own
theorem laidOut : laidOutB Tryz.prog = true := fact_laidOut

set_option maxRecDepth 100000 in
theorem lifted (os : Os) (started : os.Started) (H : Type) (enc : TypeId × Value → H) :
    ReturnsInHanded {} Tryz.checked os 3 .any (fun w args => (Rows.scriptReadsSpec.pre enc Tryz.prog Tryz.f3 [] false w args ∧ laidMetH Tryz.prog Rows.scriptReadsRow.laid w) ∧ sizedMet enc Tryz.prog Tryz.f3 (OpenSpec.ofChange Rows.scriptReadsSpec) false w args) (Rows.scriptReadsSpec.post enc Tryz.prog Tryz.f3 false true false false) := by
  refine handed_all (C := Tryz.checked) (X := fun w _ => laidMetH Tryz.prog Rows.scriptReadsRow.laid w) (fun _ _ _ hh h => h.of_heap hh) own started (by kernel_rfl) Tryz.func3
    (ChangeSpec.witness_shaped (enc := enc) (C := Tryz.checked) (os := os) (X := fun w _ => laidMetH Tryz.prog Rows.scriptReadsRow.laid w) false (World.laidAll Tryz.prog os Rows.scriptReadsRow.laid) #[.string ⟨#[]⟩] 8 (World.laidAll_os _ _ _)
      (World.shaped_of_ZipB (by kernel_rfl) (by kernel_rfl)) (by kernel_rfl) (by kernel_rfl) (by kernel_rfl)
      (by rw [MakeChecks.laidMetH_plain _ _ _ (by kernel_rfl)]; exact laidMet_laidAll _ (by kernel_rfl) (by kernel_rfl))) ?_
  intro W base args ds gs before hval0 hW hcnd _ hL hsh _
  have hval : ∀ (j : Nat) t v, Tryz.f3.params[j]? = some t → args[j]? = some v → Value.okWide Tryz.prog W .any base t v := hval0
  have hW' := hW
  obtain ⟨p, q, hA0, hV, rfl, hfz, hnd⟩ := hW
  have hA : DataW.TrodAll enc Tryz.prog W 0 (fun _ => true) true Tryz.f3.params.toList args.toList ds p := hA0
  rw [Tryz.params3] at hA hval
  obtain ⟨v0, vs0, d0, ds0, p0, q0, hargs, rfl, rfl, h0, r0⟩ := trodAll_cons hA
  obtain ⟨rfl, rfl, rfl⟩ := trodAll_nil r0
  obtain rfl : args = #[v0] := by cases args; simp_all
  obtain ⟨rfl, rfl⟩ := trodVars_none hV
  have k0 := h0
  have lt0 : ∀ x ∈ p0, x.block < W.heap.size := by obtain ⟨m, hm⟩ := k0; exact DataW.trod_lt m _ _ _ hm
  obtain ⟨a0, rfl, b0⟩ := par_string Tryz.underlying9 (hval 0 9 v0 rfl rfl) h0
  clear hA0 hval0
  refine (reads_walk W a0 b0).mono fun e W' ⟨he, hk⟩ => ?_
  subst he
  have bel : Below W.heap.size W W' := hk.below (Nat.le_refl _) (fun k hk h => by omega)
  exact ⟨_, rfl, _, _, _, [], _, [], hW', trodAll_mk1 (shut_bool Tryz.underlying4 _), (trodAll_cons_mk (Below.trod laidOut (by kernel_rfl) (of_decide_eq_true (by kernel_rfl)) k0 bel lt0) trodAll_mk0), rfl, bel.frame _, fun h => by cases h⟩
theorem k0 : (Rows.scriptReadsRow.wf (OpenSpec.ofChange Rows.scriptReadsSpec)) = true := by kernel_rfl
theorem k1 : (laidOutB Tryz.prog) = true := fact_laidOut
theorem k2 : (mapsRowed Tryz.prog) = true := fact_mapsRowed
theorem k3 : (Tryz.f3.params.all (Tryz.prog.readableRec ·)) = true := by kernel_rfl
theorem k4 : (namedTie Tryz.prog Rows.scriptReadsRow.named Rows.scriptReadsSpec.vars) = true := by kernel_rfl
theorem k5 : ((Rows.scriptReadsRow.stops == [])) = true := by kernel_rfl
theorem k6 : ((Tryz.prog.stops == [])) = true := fact_stops
theorem k7 : ((Rows.scriptReadsRow.knobs == [])) = true := by kernel_rfl
theorem k8 : ((Tryz.prog.stopKnobs == [])) = true := fact_knobs
theorem k9 : ((Rows.scriptReadsRow.inPlace == Tryz.prog.inPlace 3)) = true := by kernel_rfl
theorem k10 : ((Rows.scriptReadsRow.unfollowed == Tryz.prog.unfollowed 3)) = true := by kernel_rfl
theorem k11 : ((Rows.scriptReadsRow.recurses == Tryz.prog.recurses 3)) = true := by kernel_rfl
theorem k12 : ((Rows.scriptReadsRow.named == Tryz.prog.varsNamed 3)) = true := by kernel_rfl
theorem k13 : ((Rows.scriptReadsRow.maps == (Tryz.f3.params.toList ++ Rows.scriptReadsSpec.plain.varTypes Tryz.prog).any (Tryz.prog.mapsRec ·))) = true := by kernel_rfl
theorem k14 : ((Rows.scriptReadsRow.ifaces == (Tryz.f3.params.toList ++ Rows.scriptReadsSpec.plain.varTypes Tryz.prog).any (Tryz.prog.ifacesRec ·))) = true := by kernel_rfl
theorem k15 : ((Rows.scriptReadsRow.mapsOut == Tryz.prog.mapsAmong Tryz.f3.resultTypes.toList)) = true := by kernel_rfl
theorem k16 : ((Rows.scriptReadsRow.loops == (Tryz.f3.params.toList ++ Rows.scriptReadsSpec.plain.varTypes Tryz.prog).any (Tryz.prog.loopsFrom ·))) = true := by kernel_rfl
theorem k17 : ((Rows.scriptReadsRow.wideKeys == (Tryz.f3.params.toList ++ Rows.scriptReadsSpec.plain.varTypes Tryz.prog ++ Tryz.f3.resultTypes.toList).any (Tryz.prog.wideKeysFrom ·))) = true := by kernel_rfl
theorem k18 : (Rows.scriptReadsSpec.vars.all (Tryz.prog.varReadable ·)) = true := by kernel_rfl
theorem k19 : (Tryz.f3.resultTypes.all (fun t => Tryz.prog.readableRec t && decide (t < Tryz.prog.types.size))) = true := by kernel_rfl
theorem k20 : ((Rows.scriptReadsRow.ifacesOut == Tryz.f3.resultTypes.toList.any (Tryz.prog.ifacesRec ·))) = true := by kernel_rfl
theorem k21 : ((Rows.scriptReadsRow.loopsOut == Tryz.f3.resultTypes.toList.any (Tryz.prog.loopsFrom ·))) = true := by kernel_rfl
theorem k22 : ((Rows.scriptReadsRow.plainKeys == Tryz.prog.plainKeys)) = true := fact_plainKeys
theorem k23 : (Rows.scriptReadsRow.shortTexts.isNone) = true := by kernel_rfl
theorem k24 : (Tryz.prog.stopsHeard) = true := fact_heard
theorem k25 : (Tryz.prog.mayEnter) = true := fact_mayEnter
theorem k26 : ((Rows.scriptReadsRow.lifted == Tryz.prog.liftsFinal)) = true := fact_lifts
theorem k27 : ((Tryz.prog.make == some Rows.scriptReadsRow.make)) = true := fact_make
theorem k28 : ((Rows.scriptReadsRow.kinds == (if Rows.scriptReadsRow.domain.isEmpty then [] else Tryz.f3.params.toList.map fun t => match Tryz.prog.underlying t with | some (.int k) => some k | _ => none))) = true := by kernel_rfl
theorem k29 : ((Rows.scriptReadsRow.pinned == Rows.scriptReadsRow.pinnedBy)) = true := by kernel_rfl
theorem k30 : ((Rows.scriptReadsRow.veiled == (Tryz.f3.params.toList ++ Rows.scriptReadsSpec.plain.varTypes Tryz.prog ++ Tryz.f3.resultTypes.toList).any (Tryz.prog.veiledRec ·))) = true := by kernel_rfl
theorem k31 : (Rows.scriptReadsRow.veiledFits Tryz.prog Tryz.f3.params.toList (Tryz.f3.params.toList ++ Rows.scriptReadsSpec.plain.varTypes Tryz.prog ++ Tryz.f3.resultTypes.toList)) = true := by kernel_rfl
theorem kf : Tryz.prog.funcNamed Rows.scriptReadsRow.func = some 3 := by kernel_rfl
theorem ki : Tryz.f3.isInstance Tryz.prog Rows.scriptReadsRow.origin Rows.scriptReadsRow.targs := of_decide_eq_true (by kernel_rfl)
theorem kw : Tryz.f3.isWrapper Tryz.prog Rows.scriptReadsRow.wrapper Rows.scriptReadsRow.mainSum := by unfold Func.isWrapper; first | (rw [if_pos (by decide +kernel)]; kernel_rfl) | (rw [if_neg (by decide +kernel)]; exact ⟨rfl, rfl⟩)
theorem closed : joinedFacts Tryz.prog 3 Tryz.f3 Rows.scriptReadsSpec Rows.scriptReadsRow = true := joined_of k0 k1 k2 k3 k4 k5 k6 k7 k8 k9 k10 k11 k12 k13 k14 k15 k16 k17 k18 k19 k20 k21 k22 k23 k24 k25 k26 k27 k28 k29 k30 k31
theorem over : Rows.scriptReadsRow.holds Tryz.pinned (OpenSpec.ofChange Rows.scriptReadsSpec) :=
  OpenClaim.holds_of_wide 3 Tryz.f3 rfl rfl rfl rfl rfl rfl rfl ⟨rfl, rfl, rfl, rfl, rfl⟩ rfl rfl rfl rfl rfl kf Tryz.func3 closed ki kw (fun os started H enc _ => lifted os started H enc)

theorem cw : Rows.scriptReadsRow.wfByText (OpenSpec.ofChange Rows.scriptReadsSpec) = true := by kernel_rfl
theorem cm : Tryz.pinned.checked.prog.mainIs = some (Rows.scriptReadsCard.stood.harness.1, Rows.scriptReadsCard.stood.harness.2.toList) := fact_main
theorem cl : Rows.scriptReadsCard.stood.looks = Tryz.prog.looks [] := fact_looks
theorem cs : ([9].all fun u => !Tryz.prog.wantsStandIn u) = true := by kernel_rfl
theorem cg : false = Rows.scriptReadsRow.goesBy Tryz.prog := goesBy_none fact_goes _
theorem card_holds : Claim7.holds Tryz.pinned (.plain (OpenSpec.ofChange Rows.scriptReadsSpec)) Rows.scriptReadsCard :=
  Claim7.holds_tied_plain_at .later [] _ true Rows.scriptReadsCard.stood.harness Rows.scriptReadsCard.stood.looks over (fun _ h => by cases h) cw (fun _ h => by cases h) scriptReads_row_tie rfl ⟨rfl, rfl⟩ cm rfl
    (fun f fn hf hfn => by
      obtain rfl : f = 3 := Option.some.inj (kf.symm.trans hf) |>.symm
      obtain rfl : fn = Tryz.f3 := (Option.some.inj (Tryz.func3.symm.trans hfn)).symm
      exact ⟨cl, fun j t ht => by
        rw [Tryz.params3] at ht
        have hm : t ∈ [9] := by simpa using Array.mem_of_getElem? ht
        exact (show Tryz.prog.wantsStandIn t = false by simpa using List.all_eq_true.1 cs t hm)⟩)
    cg

/-- the statement -/
theorem proved : Rows.ScriptReadsCardSaid := card_holds
#print axioms proved
end Go.Proofs.YtegafdkhbgojcaaGreatDoor.lawScriptReads
