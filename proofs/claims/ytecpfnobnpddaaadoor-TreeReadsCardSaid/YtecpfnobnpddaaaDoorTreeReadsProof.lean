/- The statement TreeReads: for every input the law answers true, and the input reads as it did. No condition. -/
import Derived.Test.YtecpfnobnpddaaaDoorRows
import Derived.Test.YtecpfnobnpddaaaDoorTReadsW
import Derived.Test.YtecpfnobnpddaaaDoorOpen
import Derived.Test.YtecpfnobnpddaaaDoorHand
import Derived.Test.YtecpfnobnpddaaaDoorFacts
import Derived.Test.YtecpfnobnpddaaaDoorCards
import Derived.Test.YtecpfnobnpddaaaDoorTie
import Derived.Test.YtecpfnobnpddaaaDoorShelf
set_option linter.unusedVariables false
set_option maxRecDepth 100000
namespace Go.Proofs.YtecpfnobnpddaaaDoor.lawTreeReads
open Go.ChangeShapes Go.WideShapes Go.ChangeAt Go.RowKit
open Go.ChangeMaps (open_string shut_string)
theorem own : ownKnob Tryd.prog.godebug = none := fact_own
theorem laidOut : laidOutB Tryd.prog = true := fact_laidOut

set_option maxRecDepth 100000 in
theorem lifted (os : Os) (started : os.Started) (H : Type) (enc : TypeId × Value → H) :
    ReturnsInHanded {} Tryd.checked os 9 .any (fun w args => (Rows.treeReadsSpec.pre enc Tryd.prog Tryd.f9 [] false w args ∧ laidMetH Tryd.prog Rows.treeReadsRow.laid w) ∧ sizedMet enc Tryd.prog Tryd.f9 (OpenSpec.ofChange Rows.treeReadsSpec) false w args) (Rows.treeReadsSpec.post enc Tryd.prog Tryd.f9 false true false false) := by
  refine handed_all (C := Tryd.checked) (X := fun w _ => laidMetH Tryd.prog Rows.treeReadsRow.laid w) (fun _ _ _ hh h => h.of_heap hh) own started (by kernel_rfl) Tryd.func9
    (ChangeSpec.witness_shaped (enc := enc) (C := Tryd.checked) (os := os) (X := fun w _ => laidMetH Tryd.prog Rows.treeReadsRow.laid w) false (World.laidAll Tryd.prog os Rows.treeReadsRow.laid) #[.string ⟨#[]⟩] 8 (World.laidAll_os _ _ _)
      (World.shaped_of_ZipB (by kernel_rfl) (by kernel_rfl)) (by kernel_rfl) (by kernel_rfl) (by kernel_rfl)
      (by rw [MakeChecks.laidMetH_plain _ _ _ (by kernel_rfl)]; exact laidMet_laidAll _ (by kernel_rfl) (by kernel_rfl))) ?_
  intro W base args ds gs before hval0 hW hcnd _ hL hsh _
  have hval : ∀ (j : Nat) t v, Tryd.f9.params[j]? = some t → args[j]? = some v → Value.okWide Tryd.prog W .any base t v := hval0
  have hW' := hW
  obtain ⟨p, q, hA0, hV, rfl, hfz, hnd⟩ := hW
  have hA : DataW.TrodAll enc Tryd.prog W 0 (fun _ => true) true Tryd.f9.params.toList args.toList ds p := hA0
  rw [Tryd.params9] at hA hval
  obtain ⟨v0, vs0, d0, ds0, p0, q0, hargs, rfl, rfl, h0, r0⟩ := trodAll_cons hA
  obtain ⟨rfl, rfl, rfl⟩ := trodAll_nil r0
  obtain rfl : args = #[v0] := by cases args; simp_all
  obtain ⟨rfl, rfl⟩ := trodVars_none hV
  have k0 := h0
  have lt0 : ∀ x ∈ p0, x.block < W.heap.size := by obtain ⟨m, hm⟩ := k0; exact DataW.trod_lt m _ _ _ hm
  obtain ⟨a0, rfl, b0⟩ := par_string Tryd.underlying9 (hval 0 9 v0 rfl rfl) h0
  clear hA0 hval0
  refine (treads_walk W (Tryd.laysM146.s1_3 W hsh) a0 b0).mono fun e W' ⟨he, hk⟩ => ?_
  subst he
  have bel : Below W.heap.size W W' := hk.below (Nat.le_refl _) (fun k hk h => by omega)
  exact ⟨_, rfl, _, _, _, [], _, [], hW', trodAll_mk1 (shut_bool Tryd.underlying4 _), (trodAll_cons_mk (Below.trod laidOut (by kernel_rfl) (of_decide_eq_true (by kernel_rfl)) k0 bel lt0) trodAll_mk0), rfl, bel.frame _, fun h => by cases h⟩
theorem k0 : (Rows.treeReadsRow.wf (OpenSpec.ofChange Rows.treeReadsSpec)) = true := by kernel_rfl
theorem k1 : (laidOutB Tryd.prog) = true := fact_laidOut
theorem k2 : (mapsRowed Tryd.prog) = true := fact_mapsRowed
theorem k3 : (Tryd.f9.params.all (Tryd.prog.readableRec ·)) = true := by kernel_rfl
theorem k4 : (namedTie Tryd.prog Rows.treeReadsRow.named Rows.treeReadsSpec.vars) = true := by kernel_rfl
theorem k5 : ((Rows.treeReadsRow.stops == [])) = true := by kernel_rfl
theorem k6 : ((Tryd.prog.stops == [])) = true := fact_stops
theorem k7 : ((Rows.treeReadsRow.knobs == [])) = true := by kernel_rfl
theorem k8 : ((Tryd.prog.stopKnobs == [])) = true := fact_knobs
theorem k9 : ((Rows.treeReadsRow.inPlace == Tryd.prog.inPlace 9)) = true := by kernel_rfl
theorem k10 : ((Rows.treeReadsRow.unfollowed == Tryd.prog.unfollowed 9)) = true := by kernel_rfl
theorem k11 : ((Rows.treeReadsRow.recurses == Tryd.prog.recurses 9)) = true := by kernel_rfl
theorem k12 : ((Rows.treeReadsRow.named == Tryd.prog.varsNamed 9)) = true := by kernel_rfl
theorem k13 : ((Rows.treeReadsRow.maps == (Tryd.f9.params.toList ++ Rows.treeReadsSpec.plain.varTypes Tryd.prog).any (Tryd.prog.mapsRec ·))) = true := by kernel_rfl
theorem k14 : ((Rows.treeReadsRow.ifaces == (Tryd.f9.params.toList ++ Rows.treeReadsSpec.plain.varTypes Tryd.prog).any (Tryd.prog.ifacesRec ·))) = true := by kernel_rfl
theorem k15 : ((Rows.treeReadsRow.mapsOut == Tryd.prog.mapsAmong Tryd.f9.resultTypes.toList)) = true := by kernel_rfl
theorem k16 : ((Rows.treeReadsRow.loops == (Tryd.f9.params.toList ++ Rows.treeReadsSpec.plain.varTypes Tryd.prog).any (Tryd.prog.loopsFrom ·))) = true := by kernel_rfl
theorem k17 : ((Rows.treeReadsRow.wideKeys == (Tryd.f9.params.toList ++ Rows.treeReadsSpec.plain.varTypes Tryd.prog ++ Tryd.f9.resultTypes.toList).any (Tryd.prog.wideKeysFrom ·))) = true := by kernel_rfl
theorem k18 : (Rows.treeReadsSpec.vars.all (Tryd.prog.varReadable ·)) = true := by kernel_rfl
theorem k19 : (Tryd.f9.resultTypes.all (fun t => Tryd.prog.readableRec t && decide (t < Tryd.prog.types.size))) = true := by kernel_rfl
theorem k20 : ((Rows.treeReadsRow.ifacesOut == Tryd.f9.resultTypes.toList.any (Tryd.prog.ifacesRec ·))) = true := by kernel_rfl
theorem k21 : ((Rows.treeReadsRow.loopsOut == Tryd.f9.resultTypes.toList.any (Tryd.prog.loopsFrom ·))) = true := by kernel_rfl
theorem k22 : ((Rows.treeReadsRow.plainKeys == Tryd.prog.plainKeys)) = true := fact_plainKeys
theorem k23 : (Rows.treeReadsRow.shortTexts.isNone) = true := by kernel_rfl
theorem k24 : (Tryd.prog.stopsHeard) = true := fact_heard
theorem k25 : (Tryd.prog.mayEnter) = true := fact_mayEnter
theorem k26 : ((Rows.treeReadsRow.lifted == Tryd.prog.liftsFinal)) = true := fact_lifts
theorem k27 : ((Tryd.prog.make == some Rows.treeReadsRow.make)) = true := fact_make
theorem k28 : ((Rows.treeReadsRow.kinds == (if Rows.treeReadsRow.domain.isEmpty then [] else Tryd.f9.params.toList.map fun t => match Tryd.prog.underlying t with | some (.int k) => some k | _ => none))) = true := by kernel_rfl
theorem k29 : ((Rows.treeReadsRow.pinned == Rows.treeReadsRow.pinnedBy)) = true := by kernel_rfl
theorem k30 : ((Rows.treeReadsRow.veiled == (Tryd.f9.params.toList ++ Rows.treeReadsSpec.plain.varTypes Tryd.prog ++ Tryd.f9.resultTypes.toList).any (Tryd.prog.veiledRec ·))) = true := by kernel_rfl
theorem k31 : (Rows.treeReadsRow.veiledFits Tryd.prog Tryd.f9.params.toList (Tryd.f9.params.toList ++ Rows.treeReadsSpec.plain.varTypes Tryd.prog ++ Tryd.f9.resultTypes.toList)) = true := by kernel_rfl
theorem kf : Tryd.prog.funcNamed Rows.treeReadsRow.func = some 9 := by kernel_rfl
theorem ki : Tryd.f9.isInstance Tryd.prog Rows.treeReadsRow.origin Rows.treeReadsRow.targs := of_decide_eq_true (by kernel_rfl)
theorem kw : Tryd.f9.isWrapper Tryd.prog Rows.treeReadsRow.wrapper Rows.treeReadsRow.mainSum := by unfold Func.isWrapper; first | (rw [if_pos (by decide +kernel)]; kernel_rfl) | (rw [if_neg (by decide +kernel)]; exact ⟨rfl, rfl⟩)
theorem closed : joinedFacts Tryd.prog 9 Tryd.f9 Rows.treeReadsSpec Rows.treeReadsRow = true := joined_of k0 k1 k2 k3 k4 k5 k6 k7 k8 k9 k10 k11 k12 k13 k14 k15 k16 k17 k18 k19 k20 k21 k22 k23 k24 k25 k26 k27 k28 k29 k30 k31
theorem over : Rows.treeReadsRow.holds Tryd.pinned (OpenSpec.ofChange Rows.treeReadsSpec) :=
  OpenClaim.holds_of_wide 9 Tryd.f9 rfl rfl rfl rfl rfl rfl rfl ⟨rfl, rfl, rfl, rfl, rfl⟩ rfl rfl rfl rfl rfl kf Tryd.func9 closed ki kw (fun os started H enc _ => lifted os started H enc)

theorem cw : Rows.treeReadsRow.wfByText (OpenSpec.ofChange Rows.treeReadsSpec) = true := by kernel_rfl
theorem cm : Tryd.pinned.checked.prog.mainIs = some (Rows.treeReadsCard.stood.harness.1, Rows.treeReadsCard.stood.harness.2.toList) := fact_main
theorem cl : Rows.treeReadsCard.stood.looks = Tryd.prog.looks [] := fact_looks
theorem cs : ([9].all fun u => !Tryd.prog.wantsStandIn u) = true := by kernel_rfl
theorem cg : false = Rows.treeReadsRow.goesBy Tryd.prog := by kernel_rfl
theorem card_holds : Claim7.holds Tryd.pinned (.plain (OpenSpec.ofChange Rows.treeReadsSpec)) Rows.treeReadsCard :=
  Claim7.holds_tied_plain_at .later [] _ true Rows.treeReadsCard.stood.harness Rows.treeReadsCard.stood.looks over (fun _ h => by cases h) cw (fun _ h => by cases h) treeReads_row_tie rfl ⟨rfl, rfl⟩ cm rfl
    (fun f fn hf hfn => by
      obtain rfl : f = 9 := Option.some.inj (kf.symm.trans hf) |>.symm
      obtain rfl : fn = Tryd.f9 := (Option.some.inj (Tryd.func9.symm.trans hfn)).symm
      exact ⟨cl, fun j t ht => by
        rw [Tryd.params9] at ht
        have hm : t ∈ [9] := by simpa using Array.mem_of_getElem? ht
        exact (show Tryd.prog.wantsStandIn t = false by simpa using List.all_eq_true.1 cs t hm)⟩)
    cg

/-- the statement -/
theorem proved : Rows.TreeReadsCardSaid := card_holds
#print axioms proved
end Go.Proofs.YtecpfnobnpddaaaDoor.lawTreeReads
