/- The statement TreeOwners: for every input the law answers true, and the input reads as it did. No condition. -/
import Derived.Test.YtecpfnobnpddaaaDoorRows
import Derived.Test.YtecpfnobnpddaaaDoorTOwnW
import Derived.Test.YtecpfnobnpddaaaDoorOpen
import Derived.Test.YtecpfnobnpddaaaDoorHand
import Derived.Test.YtecpfnobnpddaaaDoorFacts
import Derived.Test.YtecpfnobnpddaaaDoorCards
import Derived.Test.YtecpfnobnpddaaaDoorTie
import Derived.Test.YtecpfnobnpddaaaDoorShelf
set_option linter.unusedVariables false
set_option maxRecDepth 100000
namespace Go.Proofs.YtecpfnobnpddaaaDoor.lawTreeOwners
open Go.ChangeShapes Go.WideShapes Go.ChangeAt Go.RowKit
open Go.ChangeMaps (open_string shut_string)
theorem own : ownKnob Tryd.prog.godebug = none := fact_own
theorem laidOut : laidOutB Tryd.prog = true := fact_laidOut

set_option maxRecDepth 100000 in
theorem lifted (os : Os) (started : os.Started) (H : Type) (enc : TypeId × Value → H) :
    ReturnsInHanded {} Tryd.checked os 8 .any (fun w args => (Rows.treeOwnersSpec.pre enc Tryd.prog Tryd.f8 [] false w args ∧ laidMetH Tryd.prog Rows.treeOwnersRow.laid w) ∧ sizedMet enc Tryd.prog Tryd.f8 (OpenSpec.ofChange Rows.treeOwnersSpec) false w args) (Rows.treeOwnersSpec.post enc Tryd.prog Tryd.f8 false true false false) := by
  refine handed_all (C := Tryd.checked) (X := fun w _ => laidMetH Tryd.prog Rows.treeOwnersRow.laid w) (fun _ _ _ hh h => h.of_heap hh) own started (by kernel_rfl) Tryd.func8
    (ChangeSpec.witness_shaped (enc := enc) (C := Tryd.checked) (os := os) (X := fun w _ => laidMetH Tryd.prog Rows.treeOwnersRow.laid w) false (World.laidAll Tryd.prog os Rows.treeOwnersRow.laid) #[.slice none 0 0] 8 (World.laidAll_os _ _ _)
      (World.shaped_of_ZipB (by kernel_rfl) (by kernel_rfl)) (by kernel_rfl) (by kernel_rfl) (by kernel_rfl)
      (by rw [MakeChecks.laidMetH_plain _ _ _ (by kernel_rfl)]; exact laidMet_laidAll _ (by kernel_rfl) (by kernel_rfl))) ?_
  intro W base args ds gs before hval0 hW hcnd _ hL hsh _
  have hval : ∀ (j : Nat) t v, Tryd.f8.params[j]? = some t → args[j]? = some v → Value.okWide Tryd.prog W .any base t v := hval0
  have hW' := hW
  obtain ⟨p, q, hA0, hV, rfl, hfz, hnd⟩ := hW
  have hA : DataW.TrodAll enc Tryd.prog W 0 (fun _ => true) true Tryd.f8.params.toList args.toList ds p := hA0
  rw [Tryd.params8] at hA hval
  obtain ⟨v0, vs0, d0, ds0, p0, q0, hargs, rfl, rfl, h0, r0⟩ := trodAll_cons hA
  obtain ⟨rfl, rfl, rfl⟩ := trodAll_nil r0
  obtain rfl : args = #[v0] := by cases args; simp_all
  obtain ⟨rfl, rfl⟩ := trodVars_none hV
  have k0 := h0
  have lt0 : ∀ x ∈ p0, x.block < W.heap.size := by obtain ⟨m, hm⟩ := k0; exact DataW.trod_lt m _ _ _ hm
  obtain ⟨A0, c0, a0, rfl, s0, g0, l0⟩ := par_slice Tryd.underlying48 (hval 0 48 v0 rfl rfl) (dec_int Tryd.underlying3) h0
  rw [show Tryd.prog.cellsOf 3 = 1 from by kernel_rfl, flatMap_Is] at s0
  clear hA0 hval0
  refine (town_walk W (Tryd.laysM146.s1_3 W hsh) A0 a0 c0 s0 l0).mono fun e W' ⟨he, hk⟩ => ?_
  subst he
  have bel : Below W.heap.size W W' := hk.below (Nat.le_refl _) (fun k hk h => by omega)
  exact ⟨_, rfl, _, _, _, [], _, [], hW', trodAll_mk1 (shut_bool Tryd.underlying4 _), (trodAll_cons_mk (Below.trod laidOut (by kernel_rfl) (of_decide_eq_true (by kernel_rfl)) k0 bel lt0) trodAll_mk0), rfl, bel.frame _, fun h => by cases h⟩
theorem k0 : (Rows.treeOwnersRow.wf (OpenSpec.ofChange Rows.treeOwnersSpec)) = true := by kernel_rfl
theorem k1 : (laidOutB Tryd.prog) = true := fact_laidOut
theorem k2 : (mapsRowed Tryd.prog) = true := fact_mapsRowed
theorem k3 : (Tryd.f8.params.all (Tryd.prog.readableRec ·)) = true := by kernel_rfl
theorem k4 : (namedTie Tryd.prog Rows.treeOwnersRow.named Rows.treeOwnersSpec.vars) = true := by kernel_rfl
theorem k5 : ((Rows.treeOwnersRow.stops == [])) = true := by kernel_rfl
theorem k6 : ((Tryd.prog.stops == [])) = true := fact_stops
theorem k7 : ((Rows.treeOwnersRow.knobs == [])) = true := by kernel_rfl
theorem k8 : ((Tryd.prog.stopKnobs == [])) = true := fact_knobs
theorem k9 : ((Rows.treeOwnersRow.inPlace == Tryd.prog.inPlace 8)) = true := by kernel_rfl
theorem k10 : ((Rows.treeOwnersRow.unfollowed == Tryd.prog.unfollowed 8)) = true := by kernel_rfl
theorem k11 : ((Rows.treeOwnersRow.recurses == Tryd.prog.recurses 8)) = true := by kernel_rfl
theorem k12 : ((Rows.treeOwnersRow.named == Tryd.prog.varsNamed 8)) = true := by kernel_rfl
theorem k13 : ((Rows.treeOwnersRow.maps == (Tryd.f8.params.toList ++ Rows.treeOwnersSpec.plain.varTypes Tryd.prog).any (Tryd.prog.mapsRec ·))) = true := by kernel_rfl
theorem k14 : ((Rows.treeOwnersRow.ifaces == (Tryd.f8.params.toList ++ Rows.treeOwnersSpec.plain.varTypes Tryd.prog).any (Tryd.prog.ifacesRec ·))) = true := by kernel_rfl
theorem k15 : ((Rows.treeOwnersRow.mapsOut == Tryd.prog.mapsAmong Tryd.f8.resultTypes.toList)) = true := by kernel_rfl
theorem k16 : ((Rows.treeOwnersRow.loops == (Tryd.f8.params.toList ++ Rows.treeOwnersSpec.plain.varTypes Tryd.prog).any (Tryd.prog.loopsFrom ·))) = true := by kernel_rfl
theorem k17 : ((Rows.treeOwnersRow.wideKeys == (Tryd.f8.params.toList ++ Rows.treeOwnersSpec.plain.varTypes Tryd.prog ++ Tryd.f8.resultTypes.toList).any (Tryd.prog.wideKeysFrom ·))) = true := by kernel_rfl
theorem k18 : (Rows.treeOwnersSpec.vars.all (Tryd.prog.varReadable ·)) = true := by kernel_rfl
theorem k19 : (Tryd.f8.resultTypes.all (fun t => Tryd.prog.readableRec t && decide (t < Tryd.prog.types.size))) = true := by kernel_rfl
theorem k20 : ((Rows.treeOwnersRow.ifacesOut == Tryd.f8.resultTypes.toList.any (Tryd.prog.ifacesRec ·))) = true := by kernel_rfl
theorem k21 : ((Rows.treeOwnersRow.loopsOut == Tryd.f8.resultTypes.toList.any (Tryd.prog.loopsFrom ·))) = true := by kernel_rfl
theorem k22 : ((Rows.treeOwnersRow.plainKeys == Tryd.prog.plainKeys)) = true := fact_plainKeys
theorem k23 : (Rows.treeOwnersRow.shortTexts.isNone) = true := by kernel_rfl
theorem k24 : (Tryd.prog.stopsHeard) = true := fact_heard
theorem k25 : (Tryd.prog.mayEnter) = true := fact_mayEnter
theorem k26 : ((Rows.treeOwnersRow.lifted == Tryd.prog.liftsFinal)) = true := fact_lifts
theorem k27 : ((Tryd.prog.make == some Rows.treeOwnersRow.make)) = true := fact_make
theorem k28 : ((Rows.treeOwnersRow.kinds == (if Rows.treeOwnersRow.domain.isEmpty then [] else Tryd.f8.params.toList.map fun t => match Tryd.prog.underlying t with | some (.int k) => some k | _ => none))) = true := by kernel_rfl
theorem k29 : ((Rows.treeOwnersRow.pinned == Rows.treeOwnersRow.pinnedBy)) = true := by kernel_rfl
theorem k30 : ((Rows.treeOwnersRow.veiled == (Tryd.f8.params.toList ++ Rows.treeOwnersSpec.plain.varTypes Tryd.prog ++ Tryd.f8.resultTypes.toList).any (Tryd.prog.veiledRec ·))) = true := by kernel_rfl
theorem k31 : (Rows.treeOwnersRow.veiledFits Tryd.prog Tryd.f8.params.toList (Tryd.f8.params.toList ++ Rows.treeOwnersSpec.plain.varTypes Tryd.prog ++ Tryd.f8.resultTypes.toList)) = true := by kernel_rfl
theorem kf : Tryd.prog.funcNamed Rows.treeOwnersRow.func = some 8 := by kernel_rfl
theorem ki : Tryd.f8.isInstance Tryd.prog Rows.treeOwnersRow.origin Rows.treeOwnersRow.targs := of_decide_eq_true (by kernel_rfl)
theorem kw : Tryd.f8.isWrapper Tryd.prog Rows.treeOwnersRow.wrapper Rows.treeOwnersRow.mainSum := by unfold Func.isWrapper; first | (rw [if_pos (by decide +kernel)]; kernel_rfl) | (rw [if_neg (by decide +kernel)]; exact ⟨rfl, rfl⟩)
theorem closed : joinedFacts Tryd.prog 8 Tryd.f8 Rows.treeOwnersSpec Rows.treeOwnersRow = true := joined_of k0 k1 k2 k3 k4 k5 k6 k7 k8 k9 k10 k11 k12 k13 k14 k15 k16 k17 k18 k19 k20 k21 k22 k23 k24 k25 k26 k27 k28 k29 k30 k31
theorem over : Rows.treeOwnersRow.holds Tryd.pinned (OpenSpec.ofChange Rows.treeOwnersSpec) :=
  OpenClaim.holds_of_wide 8 Tryd.f8 rfl rfl rfl rfl rfl rfl rfl ⟨rfl, rfl, rfl, rfl, rfl⟩ rfl rfl rfl rfl rfl kf Tryd.func8 closed ki kw (fun os started H enc _ => lifted os started H enc)

theorem cw : Rows.treeOwnersRow.wfByText (OpenSpec.ofChange Rows.treeOwnersSpec) = true := by kernel_rfl
theorem cm : Tryd.pinned.checked.prog.mainIs = some (Rows.treeOwnersCard.stood.harness.1, Rows.treeOwnersCard.stood.harness.2.toList) := fact_main
theorem cl : Rows.treeOwnersCard.stood.looks = Tryd.prog.looks [] := fact_looks
theorem cs : ([48].all fun u => !Tryd.prog.wantsStandIn u) = true := by kernel_rfl
theorem cg : false = Rows.treeOwnersRow.goesBy Tryd.prog := by kernel_rfl
theorem card_holds : Claim7.holds Tryd.pinned (.plain (OpenSpec.ofChange Rows.treeOwnersSpec)) Rows.treeOwnersCard :=
  Claim7.holds_tied_plain_at .later [] _ true Rows.treeOwnersCard.stood.harness Rows.treeOwnersCard.stood.looks over (fun _ h => by cases h) cw (fun _ h => by cases h) treeOwners_row_tie rfl ⟨rfl, rfl⟩ cm rfl
    (fun f fn hf hfn => by
      obtain rfl : f = 8 := Option.some.inj (kf.symm.trans hf) |>.symm
      obtain rfl : fn = Tryd.f8 := (Option.some.inj (Tryd.func8.symm.trans hfn)).symm
      exact ⟨cl, fun j t ht => by
        rw [Tryd.params8] at ht
        have hm : t ∈ [48] := by simpa using Array.mem_of_getElem? ht
        exact (show Tryd.prog.wantsStandIn t = false by simpa using List.all_eq_true.1 cs t hm)⟩)
    cg

/-- the statement -/
theorem proved : Rows.TreeOwnersCardSaid := card_holds
#print axioms proved
end Go.Proofs.YtecpfnobnpddaaaDoor.lawTreeOwners
