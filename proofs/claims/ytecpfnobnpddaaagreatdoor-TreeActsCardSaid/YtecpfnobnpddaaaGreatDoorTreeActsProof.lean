/- The statement TreeActs: for every input the law answers true, and the input reads as it did. No condition. -/
import Derived.Test.YtecpfnobnpddaaaGreatDoorRows
import Derived.Test.YtecpfnobnpddaaaGreatDoorTActW
import Derived.Test.YtecpfnobnpddaaaGreatDoorTDec
import Derived.Test.YtecpfnobnpddaaaGreatDoorOpen
import Derived.Test.YtecpfnobnpddaaaGreatDoorHand
import Derived.Test.YtecpfnobnpddaaaGreatDoorFacts
import Derived.Test.YtecpfnobnpddaaaGreatDoorCards
import Derived.Test.YtecpfnobnpddaaaGreatDoorTie
import Derived.Test.YtecpfnobnpddaaaGreatDoorShelf
set_option linter.unusedVariables false
set_option maxRecDepth 100000
namespace Go.Proofs.YtecpfnobnpddaaaGreatDoor.lawTreeActs
open Go.ChangeShapes Go.WideShapes Go.ChangeAt Go.RowKit
open Go.ChangeMaps (open_string shut_string)
theorem own : ownKnob Tryz.prog.godebug = none := fact_own
theorem laidOut : laidOutB Tryz.prog = true := fact_laidOut

set_option maxRecDepth 100000 in
theorem lifted (os : Os) (started : os.Started) (H : Type) (enc : TypeId × Value → H) :
    ReturnsInHanded {} Tryz.checked os 4 .any (fun w args => (Rows.treeActsSpec.pre enc Tryz.prog Tryz.f4 [] false w args ∧ laidMetH Tryz.prog Rows.treeActsRow.laid w) ∧ sizedMet enc Tryz.prog Tryz.f4 (OpenSpec.ofChange Rows.treeActsSpec) false w args) (Rows.treeActsSpec.post enc Tryz.prog Tryz.f4 false true false false) := by
  refine handed_all (C := Tryz.checked) (X := fun w _ => laidMetH Tryz.prog Rows.treeActsRow.laid w) (fun _ _ _ hh h => h.of_heap hh) own started (by kernel_rfl) Tryz.func4
    (ChangeSpec.witness_shaped (enc := enc) (C := Tryz.checked) (os := os) (X := fun w _ => laidMetH Tryz.prog Rows.treeActsRow.laid w) false (World.laidAll Tryz.prog os Rows.treeActsRow.laid) #[.slice none 0 0] 8 (World.laidAll_os _ _ _)
      (World.shaped_of_ZipB (by kernel_rfl) (by kernel_rfl)) (by kernel_rfl) (by kernel_rfl) (by kernel_rfl)
      (by rw [MakeChecks.laidMetH_plain _ _ _ (by kernel_rfl)]; exact laidMet_laidAll _ (by kernel_rfl) (by kernel_rfl))) ?_
  intro W base args ds gs before hval0 hW hcnd _ hL hsh _
  have hval : ∀ (j : Nat) t v, Tryz.f4.params[j]? = some t → args[j]? = some v → Value.okWide Tryz.prog W .any base t v := hval0
  have hW' := hW
  obtain ⟨p, q, hA0, hV, rfl, hfz, hnd⟩ := hW
  have hA : DataW.TrodAll enc Tryz.prog W 0 (fun _ => true) true Tryz.f4.params.toList args.toList ds p := hA0
  rw [Tryz.params4] at hA hval
  obtain ⟨v0, vs0, d0, ds0, p0, q0, hargs, rfl, rfl, h0, r0⟩ := trodAll_cons hA
  obtain ⟨rfl, rfl, rfl⟩ := trodAll_nil r0
  obtain rfl : args = #[v0] := by cases args; simp_all
  obtain ⟨rfl, rfl⟩ := trodVars_none hV
  have k0 := h0
  have lt0 : ∀ x ∈ p0, x.block < W.heap.size := by obtain ⟨m, hm⟩ := k0; exact DataW.trod_lt m _ _ _ hm
  obtain ⟨A0, c0, a0, rfl, s0, g0, l0⟩ := par_slice Tryz.underlying47 (hval 0 47 v0 rfl rfl) (dec_tact) h0
  rw [show Tryz.prog.cellsOf 54 = 7 from by kernel_rfl] at s0
  clear hA0 hval0
  refine (tacts_walk W (Tryz.laysM146.s1_3 W hsh) A0 a0 c0 ⟨s0, fun x hx => (g0 x hx).1⟩ l0 (fun x hx => (g0 x hx).2)).mono fun e W' ⟨he, hk⟩ => ?_
  subst he
  have bel : Below W.heap.size W W' := hk.below (Nat.le_refl _) (fun k hk h => by omega)
  exact ⟨_, rfl, _, _, _, [], _, [], hW', trodAll_mk1 (shut_bool Tryz.underlying4 _), (trodAll_cons_mk (Below.trod laidOut (by kernel_rfl) (of_decide_eq_true (by kernel_rfl)) k0 bel lt0) trodAll_mk0), rfl, bel.frame _, fun h => by cases h⟩
theorem k0 : (Rows.treeActsRow.wf (OpenSpec.ofChange Rows.treeActsSpec)) = true := by kernel_rfl
theorem k1 : (laidOutB Tryz.prog) = true := fact_laidOut
theorem k2 : (mapsRowed Tryz.prog) = true := fact_mapsRowed
theorem k3 : (Tryz.f4.params.all (Tryz.prog.readableRec ·)) = true := by kernel_rfl
theorem k4 : (namedTie Tryz.prog Rows.treeActsRow.named Rows.treeActsSpec.vars) = true := by kernel_rfl
theorem k5 : ((Rows.treeActsRow.stops == [])) = true := by kernel_rfl
theorem k6 : ((Tryz.prog.stops == [])) = true := fact_stops
theorem k7 : ((Rows.treeActsRow.knobs == [])) = true := by kernel_rfl
theorem k8 : ((Tryz.prog.stopKnobs == [])) = true := fact_knobs
theorem k9 : ((Rows.treeActsRow.inPlace == Tryz.prog.inPlace 4)) = true := by kernel_rfl
theorem k10 : ((Rows.treeActsRow.unfollowed == Tryz.prog.unfollowed 4)) = true := by kernel_rfl
theorem k11 : ((Rows.treeActsRow.recurses == Tryz.prog.recurses 4)) = true := by kernel_rfl
theorem k12 : ((Rows.treeActsRow.named == Tryz.prog.varsNamed 4)) = true := by kernel_rfl
theorem k13 : ((Rows.treeActsRow.maps == (Tryz.f4.params.toList ++ Rows.treeActsSpec.plain.varTypes Tryz.prog).any (Tryz.prog.mapsRec ·))) = true := by kernel_rfl
theorem k14 : ((Rows.treeActsRow.ifaces == (Tryz.f4.params.toList ++ Rows.treeActsSpec.plain.varTypes Tryz.prog).any (Tryz.prog.ifacesRec ·))) = true := by kernel_rfl
theorem k15 : ((Rows.treeActsRow.mapsOut == Tryz.prog.mapsAmong Tryz.f4.resultTypes.toList)) = true := by kernel_rfl
theorem k16 : ((Rows.treeActsRow.loops == (Tryz.f4.params.toList ++ Rows.treeActsSpec.plain.varTypes Tryz.prog).any (Tryz.prog.loopsFrom ·))) = true := by kernel_rfl
theorem k17 : ((Rows.treeActsRow.wideKeys == (Tryz.f4.params.toList ++ Rows.treeActsSpec.plain.varTypes Tryz.prog ++ Tryz.f4.resultTypes.toList).any (Tryz.prog.wideKeysFrom ·))) = true := by kernel_rfl
theorem k18 : (Rows.treeActsSpec.vars.all (Tryz.prog.varReadable ·)) = true := by kernel_rfl
theorem k19 : (Tryz.f4.resultTypes.all (fun t => Tryz.prog.readableRec t && decide (t < Tryz.prog.types.size))) = true := by kernel_rfl
theorem k20 : ((Rows.treeActsRow.ifacesOut == Tryz.f4.resultTypes.toList.any (Tryz.prog.ifacesRec ·))) = true := by kernel_rfl
theorem k21 : ((Rows.treeActsRow.loopsOut == Tryz.f4.resultTypes.toList.any (Tryz.prog.loopsFrom ·))) = true := by kernel_rfl
theorem k22 : ((Rows.treeActsRow.plainKeys == Tryz.prog.plainKeys)) = true := fact_plainKeys
theorem k23 : (Rows.treeActsRow.shortTexts.isNone) = true := by kernel_rfl
theorem k24 : (Tryz.prog.stopsHeard) = true := fact_heard
theorem k25 : (Tryz.prog.mayEnter) = true := fact_mayEnter
theorem k26 : ((Rows.treeActsRow.lifted == Tryz.prog.liftsFinal)) = true := fact_lifts
theorem k27 : ((Tryz.prog.make == some Rows.treeActsRow.make)) = true := fact_make
theorem k28 : ((Rows.treeActsRow.kinds == (if Rows.treeActsRow.domain.isEmpty then [] else Tryz.f4.params.toList.map fun t => match Tryz.prog.underlying t with | some (.int k) => some k | _ => none))) = true := by kernel_rfl
theorem k29 : ((Rows.treeActsRow.pinned == Rows.treeActsRow.pinnedBy)) = true := by kernel_rfl
theorem k30 : ((Rows.treeActsRow.veiled == (Tryz.f4.params.toList ++ Rows.treeActsSpec.plain.varTypes Tryz.prog ++ Tryz.f4.resultTypes.toList).any (Tryz.prog.veiledRec ·))) = true := by kernel_rfl
theorem k31 : (Rows.treeActsRow.veiledFits Tryz.prog Tryz.f4.params.toList (Tryz.f4.params.toList ++ Rows.treeActsSpec.plain.varTypes Tryz.prog ++ Tryz.f4.resultTypes.toList)) = true := by kernel_rfl
theorem kf : Tryz.prog.funcNamed Rows.treeActsRow.func = some 4 := by kernel_rfl
theorem ki : Tryz.f4.isInstance Tryz.prog Rows.treeActsRow.origin Rows.treeActsRow.targs := of_decide_eq_true (by kernel_rfl)
theorem kw : Tryz.f4.isWrapper Tryz.prog Rows.treeActsRow.wrapper Rows.treeActsRow.mainSum := by unfold Func.isWrapper; first | (rw [if_pos (by decide +kernel)]; kernel_rfl) | (rw [if_neg (by decide +kernel)]; exact ⟨rfl, rfl⟩)
theorem closed : joinedFacts Tryz.prog 4 Tryz.f4 Rows.treeActsSpec Rows.treeActsRow = true := joined_of k0 k1 k2 k3 k4 k5 k6 k7 k8 k9 k10 k11 k12 k13 k14 k15 k16 k17 k18 k19 k20 k21 k22 k23 k24 k25 k26 k27 k28 k29 k30 k31
theorem over : Rows.treeActsRow.holds Tryz.pinned (OpenSpec.ofChange Rows.treeActsSpec) :=
  OpenClaim.holds_of_wide 4 Tryz.f4 rfl rfl rfl rfl rfl rfl rfl ⟨rfl, rfl, rfl, rfl, rfl⟩ rfl rfl rfl rfl rfl kf Tryz.func4 closed ki kw (fun os started H enc _ => lifted os started H enc)

theorem cw : Rows.treeActsRow.wfByText (OpenSpec.ofChange Rows.treeActsSpec) = true := by kernel_rfl
theorem cm : Tryz.pinned.checked.prog.mainIs = some (Rows.treeActsCard.stood.harness.1, Rows.treeActsCard.stood.harness.2.toList) := fact_main
theorem cl : Rows.treeActsCard.stood.looks = Tryz.prog.looks [] := fact_looks
theorem cs : ([47].all fun u => !Tryz.prog.wantsStandIn u) = true := by kernel_rfl
theorem cg : false = Rows.treeActsRow.goesBy Tryz.prog := by kernel_rfl
theorem card_holds : Claim7.holds Tryz.pinned (.plain (OpenSpec.ofChange Rows.treeActsSpec)) Rows.treeActsCard :=
  Claim7.holds_tied_plain_at .later [] _ true Rows.treeActsCard.stood.harness Rows.treeActsCard.stood.looks over (fun _ h => by cases h) cw (fun _ h => by cases h) treeActs_row_tie rfl ⟨rfl, rfl⟩ cm rfl
    (fun f fn hf hfn => by
      obtain rfl : f = 4 := Option.some.inj (kf.symm.trans hf) |>.symm
      obtain rfl : fn = Tryz.f4 := (Option.some.inj (Tryz.func4.symm.trans hfn)).symm
      exact ⟨cl, fun j t ht => by
        rw [Tryz.params4] at ht
        have hm : t ∈ [47] := by simpa using Array.mem_of_getElem? ht
        exact (show Tryz.prog.wantsStandIn t = false by simpa using List.all_eq_true.1 cs t hm)⟩)
    cg

/-- the statement -/
theorem proved : Rows.TreeActsCardSaid := card_holds
#print axioms proved
end Go.Proofs.YtecpfnobnpddaaaGreatDoor.lawTreeActs
