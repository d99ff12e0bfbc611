/- The statement WatchReads: for every input the law answers true, and the input reads as it did. No condition. -/
import Derived.Test.YtecpfnobnpddaaaDoorRows
import Derived.Test.YtecpfnobnpddaaaDoorWReadsW
import Derived.Test.YtecpfnobnpddaaaDoorOpen
import Derived.Test.YtecpfnobnpddaaaDoorHand
import Derived.Test.YtecpfnobnpddaaaDoorFacts
import Derived.Test.YtecpfnobnpddaaaDoorCards
import Derived.Test.YtecpfnobnpddaaaDoorTie
import Derived.Test.YtecpfnobnpddaaaDoorShelf
set_option linter.unusedVariables false
set_option maxRecDepth 100000
namespace Go.Proofs.YtecpfnobnpddaaaDoor.lawWatchReads
open Go.ChangeShapes Go.WideShapes Go.ChangeAt Go.RowKit
open Go.ChangeMaps (open_string shut_string)
theorem own : ownKnob Tryd.prog.godebug = none := fact_own
theorem laidOut : laidOutB Tryd.prog = true := fact_laidOut

set_option maxRecDepth 100000 in
theorem lifted (os : Os) (started : os.Started) (H : Type) (enc : TypeId × Value → H) :
    ReturnsInHanded {} Tryd.checked os 4 .any (fun w args => (Rows.watchReadsSpec.pre enc Tryd.prog Tryd.f4 [] false w args ∧ laidMetH Tryd.prog Rows.watchReadsRow.laid w) ∧ sizedMet enc Tryd.prog Tryd.f4 (OpenSpec.ofChange Rows.watchReadsSpec) false w args) (Rows.watchReadsSpec.post enc Tryd.prog Tryd.f4 false true false false) := by
  refine handed_all (C := Tryd.checked) (X := fun w _ => laidMetH Tryd.prog Rows.watchReadsRow.laid w) (fun _ _ _ hh h => h.of_heap hh) own started (by kernel_rfl) Tryd.func4
    (ChangeSpec.witness_shaped (enc := enc) (C := Tryd.checked) (os := os) (X := fun w _ => laidMetH Tryd.prog Rows.watchReadsRow.laid w) false (World.laidAll Tryd.prog os Rows.watchReadsRow.laid) #[.string ⟨#[]⟩] 8 (World.laidAll_os _ _ _)
      (World.shaped_of_ZipB (by kernel_rfl) (by kernel_rfl)) (by kernel_rfl) (by kernel_rfl) (by kernel_rfl)
      (by rw [MakeChecks.laidMetH_plain _ _ _ (by kernel_rfl)]; exact laidMet_laidAll _ (by kernel_rfl) (by kernel_rfl))) ?_
  intro W base args ds gs before hval0 hW hcnd _ hL hsh _
  have hval : ∀ (j : Nat) t v, Tryd.f4.params[j]? = some t → args[j]? = some v → Value.okWide Tryd.prog W .any base t v := hval0
  have hW' := hW
  obtain ⟨p, q, hA0, hV, rfl, hfz, hnd⟩ := hW
  have hA : DataW.TrodAll enc Tryd.prog W 0 (fun _ => true) true Tryd.f4.params.toList args.toList ds p := hA0
  rw [Tryd.params4] at hA hval
  obtain ⟨v0, vs0, d0, ds0, p0, q0, hargs, rfl, rfl, h0, r0⟩ := trodAll_cons hA
  obtain ⟨rfl, rfl, rfl⟩ := trodAll_nil r0
  obtain rfl : args = #[v0] := by cases args; simp_all
  obtain ⟨rfl, rfl⟩ := trodVars_none hV
  have k0 := h0
  have lt0 : ∀ x ∈ p0, x.block < W.heap.size := by obtain ⟨m, hm⟩ := k0; exact DataW.trod_lt m _ _ _ hm
  obtain ⟨a0, rfl, b0⟩ := par_string Tryd.underlying9 (hval 0 9 v0 rfl rfl) h0
  clear hA0 hval0
  refine (wreads_walk W (Tryd.laysM146.s1_3 W hsh) a0 b0).mono fun e W' ⟨he, hk⟩ => ?_
  subst he
  have bel : Below W.heap.size W W' := hk.below (Nat.le_refl _) (fun k hk h => by omega)
  exact ⟨_, rfl, _, _, _, [], _, [], hW', trodAll_mk1 (shut_bool Tryd.underlying4 _), (trodAll_cons_mk (Below.trod laidOut (by kernel_rfl) (of_decide_eq_true (by kernel_rfl)) k0 bel lt0) trodAll_mk0), rfl, bel.frame _, fun h => by cases h⟩
theorem k0 : (Rows.watchReadsRow.wf (OpenSpec.ofChange Rows.watchReadsSpec)) = true := by kernel_rfl
theorem k1 : (laidOutB Tryd.prog) = true := fact_laidOut
theorem k2 : (mapsRowed Tryd.prog) = true := fact_mapsRowed
theorem k3 : (Tryd.f4.params.all (Tryd.prog.readableRec ·)) = true := by kernel_rfl
theorem k4 : (namedTie Tryd.prog Rows.watchReadsRow.named Rows.watchReadsSpec.vars) = true := by kernel_rfl
theorem k5 : ((Rows.watchReadsRow.stops == [])) = true := by kernel_rfl
theorem k6 : ((Tryd.prog.stops == [])) = true := fact_stops
theorem k7 : ((Rows.watchReadsRow.knobs == [])) = true := by kernel_rfl
theorem k8 : ((Tryd.prog.stopKnobs == [])) = true := fact_knobs
theorem k9 : ((Rows.watchReadsRow.inPlace == Tryd.prog.inPlace 4)) = true := by kernel_rfl
theorem k10 : ((Rows.watchReadsRow.unfollowed == Tryd.prog.unfollowed 4)) = true := by kernel_rfl
theorem k11 : ((Rows.watchReadsRow.recurses == Tryd.prog.recurses 4)) = true := by kernel_rfl
theorem k12 : ((Rows.watchReadsRow.named == Tryd.prog.varsNamed 4)) = true := by kernel_rfl
theorem k13 : ((Rows.watchReadsRow.maps == (Tryd.f4.params.toList ++ Rows.watchReadsSpec.plain.varTypes Tryd.prog).any (Tryd.prog.mapsRec ·))) = true := by kernel_rfl
theorem k14 : ((Rows.watchReadsRow.ifaces == (Tryd.f4.params.toList ++ Rows.watchReadsSpec.plain.varTypes Tryd.prog).any (Tryd.prog.ifacesRec ·))) = true := by kernel_rfl
theorem k15 : ((Rows.watchReadsRow.mapsOut == Tryd.prog.mapsAmong Tryd.f4.resultTypes.toList)) = true := by kernel_rfl
theorem k16 : ((Rows.watchReadsRow.loops == (Tryd.f4.params.toList ++ Rows.watchReadsSpec.plain.varTypes Tryd.prog).any (Tryd.prog.loopsFrom ·))) = true := by kernel_rfl
theorem k17 : ((Rows.watchReadsRow.wideKeys == (Tryd.f4.params.toList ++ Rows.watchReadsSpec.plain.varTypes Tryd.prog ++ Tryd.f4.resultTypes.toList).any (Tryd.prog.wideKeysFrom ·))) = true := by kernel_rfl
theorem k18 : (Rows.watchReadsSpec.vars.all (Tryd.prog.varReadable ·)) = true := by kernel_rfl
theorem k19 : (Tryd.f4.resultTypes.all (fun t => Tryd.prog.readableRec t && decide (t < Tryd.prog.types.size))) = true := by kernel_rfl
theorem k20 : ((Rows.watchReadsRow.ifacesOut == Tryd.f4.resultTypes.toList.any (Tryd.prog.ifacesRec ·))) = true := by kernel_rfl
theorem k21 : ((Rows.watchReadsRow.loopsOut == Tryd.f4.resultTypes.toList.any (Tryd.prog.loopsFrom ·))) = true := by kernel_rfl
theorem k22 : ((Rows.watchReadsRow.plainKeys == Tryd.prog.plainKeys)) = true := fact_plainKeys
theorem k23 : (Rows.watchReadsRow.shortTexts.isNone) = true := by kernel_rfl
theorem k24 : (Tryd.prog.stopsHeard) = true := fact_heard
theorem k25 : (Tryd.prog.mayEnter) = true := fact_mayEnter
theorem k26 : ((Rows.watchReadsRow.lifted == Tryd.prog.liftsFinal)) = true := fact_lifts
theorem k27 : ((Tryd.prog.make == some Rows.watchReadsRow.make)) = true := fact_make
theorem k28 : ((Rows.watchReadsRow.kinds == (if Rows.watchReadsRow.domain.isEmpty then [] else Tryd.f4.params.toList.map fun t => match Tryd.prog.underlying t with | some (.int k) => some k | _ => none))) = true := by kernel_rfl
theorem k29 : ((Rows.watchReadsRow.pinned == Rows.watchReadsRow.pinnedBy)) = true := by kernel_rfl
theorem k30 : ((Rows.watchReadsRow.veiled == (Tryd.f4.params.toList ++ Rows.watchReadsSpec.plain.varTypes Tryd.prog ++ Tryd.f4.resultTypes.toList).any (Tryd.prog.veiledRec ·))) = true := by kernel_rfl
theorem k31 : (Rows.watchReadsRow.veiledFits Tryd.prog Tryd.f4.params.toList (Tryd.f4.params.toList ++ Rows.watchReadsSpec.plain.varTypes Tryd.prog ++ Tryd.f4.resultTypes.toList)) = true := by kernel_rfl
theorem kf : Tryd.prog.funcNamed Rows.watchReadsRow.func = some 4 := by kernel_rfl
theorem ki : Tryd.f4.isInstance Tryd.prog Rows.watchReadsRow.origin Rows.watchReadsRow.targs := of_decide_eq_true (by kernel_rfl)
theorem kw : Tryd.f4.isWrapper Tryd.prog Rows.watchReadsRow.wrapper Rows.watchReadsRow.mainSum := by unfold Func.isWrapper; first | (rw [if_pos (by decide +kernel)]; kernel_rfl) | (rw [if_neg (by decide +kernel)]; exact ⟨rfl, rfl⟩)
theorem closed : joinedFacts Tryd.prog 4 Tryd.f4 Rows.watchReadsSpec Rows.watchReadsRow = true := joined_of k0 k1 k2 k3 k4 k5 k6 k7 k8 k9 k10 k11 k12 k13 k14 k15 k16 k17 k18 k19 k20 k21 k22 k23 k24 k25 k26 k27 k28 k29 k30 k31
theorem over : Rows.watchReadsRow.holds Tryd.pinned (OpenSpec.ofChange Rows.watchReadsSpec) :=
  OpenClaim.holds_of_wide 4 Tryd.f4 rfl rfl rfl rfl rfl rfl rfl ⟨rfl, rfl, rfl, rfl, rfl⟩ rfl rfl rfl rfl rfl kf Tryd.func4 closed ki kw (fun os started H enc _ => lifted os started H enc)

theorem cw : Rows.watchReadsRow.wfByText (OpenSpec.ofChange Rows.watchReadsSpec) = true := by kernel_rfl
theorem cm : Tryd.pinned.checked.prog.mainIs = some (Rows.watchReadsCard.stood.harness.1, Rows.watchReadsCard.stood.harness.2.toList) := fact_main
theorem cl : Rows.watchReadsCard.stood.looks = Tryd.prog.looks [] := fact_looks
theorem cs : ([9].all fun u => !Tryd.prog.wantsStandIn u) = true := by kernel_rfl
theorem cg : false = Rows.watchReadsRow.goesBy Tryd.prog := by kernel_rfl
theorem card_holds : Claim7.holds Tryd.pinned (.plain (OpenSpec.ofChange Rows.watchReadsSpec)) Rows.watchReadsCard :=
  Claim7.holds_tied_plain_at .later [] _ true Rows.watchReadsCard.stood.harness Rows.watchReadsCard.stood.looks over (fun _ h => by cases h) cw (fun _ h => by cases h) watchReads_row_tie rfl ⟨rfl, rfl⟩ cm rfl
    (fun f fn hf hfn => by
      obtain rfl : f = 4 := Option.some.inj (kf.symm.trans hf) |>.symm
      obtain rfl : fn = Tryd.f4 := (Option.some.inj (Tryd.func4.symm.trans hfn)).symm
      exact ⟨cl, fun j t ht => by
        rw [Tryd.params4] at ht
        have hm : t ∈ [9] := by simpa using Array.mem_of_getElem? ht
        exact (show Tryd.prog.wantsStandIn t = false by simpa using List.all_eq_true.1 cs t hm)⟩)
    cg

/-- the statement -/
theorem proved : Rows.WatchReadsCardSaid := card_holds
#print axioms proved
end Go.Proofs.YtecpfnobnpddaaaDoor.lawWatchReads
