/- The statement TreeBelows: for every input the law answers true, and the input reads as it did. No condition. -/
import Derived.Test.YtecpfnobnpddaaaDoorRows
import Derived.Test.YtecpfnobnpddaaaDoorTBelW
import Derived.Test.YtecpfnobnpddaaaDoorTDec
import Derived.Test.YtecpfnobnpddaaaDoorOpen
import Derived.Test.YtecpfnobnpddaaaDoorHand
import Derived.Test.YtecpfnobnpddaaaDoorFacts
import Derived.Test.YtecpfnobnpddaaaDoorCards
import Derived.Test.YtecpfnobnpddaaaDoorTie
import Derived.Test.YtecpfnobnpddaaaDoorShelf
set_option linter.unusedVariables false
set_option maxRecDepth 100000
namespace Go.Proofs.YtecpfnobnpddaaaDoor.lawTreeBelows
open Go.ChangeShapes Go.WideShapes Go.ChangeAt Go.RowKit
open Go.ChangeMaps (open_string shut_string)
theorem own : ownKnob Tryd.prog.godebug = none := fact_own
theorem laidOut : laidOutB Tryd.prog = true := fact_laidOut

set_option maxRecDepth 100000 in
theorem lifted (os : Os) (started : os.Started) (H : Type) (enc : TypeId × Value → H) :
    ReturnsInHanded {} Tryd.checked os 7 .any (fun w args => (Rows.treeBelowsSpec.pre enc Tryd.prog Tryd.f7 [] false w args ∧ laidMetH Tryd.prog Rows.treeBelowsRow.laid w) ∧ sizedMet enc Tryd.prog Tryd.f7 (OpenSpec.ofChange Rows.treeBelowsSpec) false w args) (Rows.treeBelowsSpec.post enc Tryd.prog Tryd.f7 false true false false) := by
  refine handed_all (C := Tryd.checked) (X := fun w _ => laidMetH Tryd.prog Rows.treeBelowsRow.laid w) (fun _ _ _ hh h => h.of_heap hh) own started (by kernel_rfl) Tryd.func7
    (ChangeSpec.witness_shaped (enc := enc) (C := Tryd.checked) (os := os) (X := fun w _ => laidMetH Tryd.prog Rows.treeBelowsRow.laid w) false (World.laidAll Tryd.prog os Rows.treeBelowsRow.laid) #[.slice none 0 0, .slice none 0 0] 8 (World.laidAll_os _ _ _)
      (World.shaped_of_ZipB (by kernel_rfl) (by kernel_rfl)) (by kernel_rfl) (by kernel_rfl) (by kernel_rfl)
      (by rw [MakeChecks.laidMetH_plain _ _ _ (by kernel_rfl)]; exact laidMet_laidAll _ (by kernel_rfl) (by kernel_rfl))) ?_
  intro W base args ds gs before hval0 hW hcnd _ hL hsh _
  have hval : ∀ (j : Nat) t v, Tryd.f7.params[j]? = some t → args[j]? = some v → Value.okWide Tryd.prog W .any base t v := hval0
  have hW' := hW
  obtain ⟨p, q, hA0, hV, rfl, hfz, hnd⟩ := hW
  have hA : DataW.TrodAll enc Tryd.prog W 0 (fun _ => true) true Tryd.f7.params.toList args.toList ds p := hA0
  rw [Tryd.params7] at hA hval
  obtain ⟨v0, vs0, d0, ds0, p0, q0, hargs, rfl, rfl, h0, r0⟩ := trodAll_cons hA
  obtain ⟨v1, vs1, d1, ds1, p1, q1, rfl, rfl, rfl, h1, r1⟩ := trodAll_cons r0
  obtain ⟨rfl, rfl, rfl⟩ := trodAll_nil r1
  obtain rfl : args = #[v0, v1] := by cases args; simp_all
  obtain ⟨rfl, rfl⟩ := trodVars_none hV
  have k0 := h0
  have lt0 : ∀ x ∈ p0, x.block < W.heap.size := by obtain ⟨m, hm⟩ := k0; exact DataW.trod_lt m _ _ _ hm
  have k1 := h1
  have lt1 : ∀ x ∈ p1, x.block < W.heap.size := by obtain ⟨m, hm⟩ := k1; exact DataW.trod_lt m _ _ _ hm
  obtain ⟨A0, c0, a0, rfl, s0, g0, l0⟩ := par_slice Tryd.underlying52 (hval 0 52 v0 rfl rfl) (dec_tact) h0
  rw [show Tryd.prog.cellsOf 58 = 7 from by kernel_rfl] at s0
  obtain ⟨A1, c1, a1, rfl, s1, g1, l1⟩ := par_slice Tryd.underlying48 (hval 1 48 v1 rfl rfl) (dec_int Tryd.underlying3) h1
  rw [show Tryd.prog.cellsOf 3 = 1 from by kernel_rfl, flatMap_Is] at s1
  clear hA0 hval0
  refine (tbelow_walk W (Tryd.laysM146.s1_3 W hsh) A0 A1 a0 a1 c0 c1 ⟨s0, fun x hx => (g0 x hx).1⟩ l0 (fun x hx => (g0 x hx).2) s1 l1).mono fun e W' ⟨he, hk⟩ => ?_
  subst he
  have bel : Below W.heap.size W W' := hk.below (Nat.le_refl _) (fun k hk h => by omega)
  exact ⟨_, rfl, _, _, _, [], _, [], hW', trodAll_mk1 (shut_bool Tryd.underlying4 _), (trodAll_cons_mk (Below.trod laidOut (by kernel_rfl) (of_decide_eq_true (by kernel_rfl)) k0 bel lt0) (trodAll_cons_mk (Below.trod laidOut (by kernel_rfl) (of_decide_eq_true (by kernel_rfl)) k1 bel lt1) trodAll_mk0)), rfl, bel.frame _, fun h => by cases h⟩
theorem k0 : (Rows.treeBelowsRow.wf (OpenSpec.ofChange Rows.treeBelowsSpec)) = true := by kernel_rfl
theorem k1 : (laidOutB Tryd.prog) = true := fact_laidOut
theorem k2 : (mapsRowed Tryd.prog) = true := fact_mapsRowed
theorem k3 : (Tryd.f7.params.all (Tryd.prog.readableRec ·)) = true := by kernel_rfl
theorem k4 : (namedTie Tryd.prog Rows.treeBelowsRow.named Rows.treeBelowsSpec.vars) = true := by kernel_rfl
theorem k5 : ((Rows.treeBelowsRow.stops == [])) = true := by kernel_rfl
theorem k6 : ((Tryd.prog.stops == [])) = true := fact_stops
theorem k7 : ((Rows.treeBelowsRow.knobs == [])) = true := by kernel_rfl
theorem k8 : ((Tryd.prog.stopKnobs == [])) = true := fact_knobs
theorem k9 : ((Rows.treeBelowsRow.inPlace == Tryd.prog.inPlace 7)) = true := by kernel_rfl
theorem k10 : ((Rows.treeBelowsRow.unfollowed == Tryd.prog.unfollowed 7)) = true := by kernel_rfl
theorem k11 : ((Rows.treeBelowsRow.recurses == Tryd.prog.recurses 7)) = true := by kernel_rfl
theorem k12 : ((Rows.treeBelowsRow.named == Tryd.prog.varsNamed 7)) = true := by kernel_rfl
theorem k13 : ((Rows.treeBelowsRow.maps == (Tryd.f7.params.toList ++ Rows.treeBelowsSpec.plain.varTypes Tryd.prog).any (Tryd.prog.mapsRec ·))) = true := by kernel_rfl
theorem k14 : ((Rows.treeBelowsRow.ifaces == (Tryd.f7.params.toList ++ Rows.treeBelowsSpec.plain.varTypes Tryd.prog).any (Tryd.prog.ifacesRec ·))) = true := by kernel_rfl
theorem k15 : ((Rows.treeBelowsRow.mapsOut == Tryd.prog.mapsAmong Tryd.f7.resultTypes.toList)) = true := by kernel_rfl
theorem k16 : ((Rows.treeBelowsRow.loops == (Tryd.f7.params.toList ++ Rows.treeBelowsSpec.plain.varTypes Tryd.prog).any (Tryd.prog.loopsFrom ·))) = true := by kernel_rfl
theorem k17 : ((Rows.treeBelowsRow.wideKeys == (Tryd.f7.params.toList ++ Rows.treeBelowsSpec.plain.varTypes Tryd.prog ++ Tryd.f7.resultTypes.toList).any (Tryd.prog.wideKeysFrom ·))) = true := by kernel_rfl
theorem k18 : (Rows.treeBelowsSpec.vars.all (Tryd.prog.varReadable ·)) = true := by kernel_rfl
theorem k19 : (Tryd.f7.resultTypes.all (fun t => Tryd.prog.readableRec t && decide (t < Tryd.prog.types.size))) = true := by kernel_rfl
theorem k20 : ((Rows.treeBelowsRow.ifacesOut == Tryd.f7.resultTypes.toList.any (Tryd.prog.ifacesRec ·))) = true := by kernel_rfl
theorem k21 : ((Rows.treeBelowsRow.loopsOut == Tryd.f7.resultTypes.toList.any (Tryd.prog.loopsFrom ·))) = true := by kernel_rfl
theorem k22 : ((Rows.treeBelowsRow.plainKeys == Tryd.prog.plainKeys)) = true := fact_plainKeys
theorem k23 : (Rows.treeBelowsRow.shortTexts.isNone) = true := by kernel_rfl
theorem k24 : (Tryd.prog.stopsHeard) = true := fact_heard
theorem k25 : (Tryd.prog.mayEnter) = true := fact_mayEnter
theorem k26 : ((Rows.treeBelowsRow.lifted == Tryd.prog.liftsFinal)) = true := fact_lifts
theorem k27 : ((Tryd.prog.make == some Rows.treeBelowsRow.make)) = true := fact_make
theorem k28 : ((Rows.treeBelowsRow.kinds == (if Rows.treeBelowsRow.domain.isEmpty then [] else Tryd.f7.params.toList.map fun t => match Tryd.prog.underlying t with | some (.int k) => some k | _ => none))) = true := by kernel_rfl
theorem k29 : ((Rows.treeBelowsRow.pinned == Rows.treeBelowsRow.pinnedBy)) = true := by kernel_rfl
theorem k30 : ((Rows.treeBelowsRow.veiled == (Tryd.f7.params.toList ++ Rows.treeBelowsSpec.plain.varTypes Tryd.prog ++ Tryd.f7.resultTypes.toList).any (Tryd.prog.veiledRec ·))) = true := by kernel_rfl
theorem k31 : (Rows.treeBelowsRow.veiledFits Tryd.prog Tryd.f7.params.toList (Tryd.f7.params.toList ++ Rows.treeBelowsSpec.plain.varTypes Tryd.prog ++ Tryd.f7.resultTypes.toList)) = true := by kernel_rfl
theorem kf : Tryd.prog.funcNamed Rows.treeBelowsRow.func = some 7 := by kernel_rfl
theorem ki : Tryd.f7.isInstance Tryd.prog Rows.treeBelowsRow.origin Rows.treeBelowsRow.targs := of_decide_eq_true (by kernel_rfl)
theorem kw : Tryd.f7.isWrapper Tryd.prog Rows.treeBelowsRow.wrapper Rows.treeBelowsRow.mainSum := by unfold Func.isWrapper; first | (rw [if_pos (by decide +kernel)]; kernel_rfl) | (rw [if_neg (by decide +kernel)]; exact ⟨rfl, rfl⟩)
theorem closed : joinedFacts Tryd.prog 7 Tryd.f7 Rows.treeBelowsSpec Rows.treeBelowsRow = true := joined_of k0 k1 k2 k3 k4 k5 k6 k7 k8 k9 k10 k11 k12 k13 k14 k15 k16 k17 k18 k19 k20 k21 k22 k23 k24 k25 k26 k27 k28 k29 k30 k31
theorem over : Rows.treeBelowsRow.holds Tryd.pinned (OpenSpec.ofChange Rows.treeBelowsSpec) :=
  OpenClaim.holds_of_wide 7 Tryd.f7 rfl rfl rfl rfl rfl rfl rfl ⟨rfl, rfl, rfl, rfl, rfl⟩ rfl rfl rfl rfl rfl kf Tryd.func7 closed ki kw (fun os started H enc _ => lifted os started H enc)

theorem cw : Rows.treeBelowsRow.wfByText (OpenSpec.ofChange Rows.treeBelowsSpec) = true := by kernel_rfl
theorem cm : Tryd.pinned.checked.prog.mainIs = some (Rows.treeBelowsCard.stood.harness.1, Rows.treeBelowsCard.stood.harness.2.toList) := fact_main
theorem cl : Rows.treeBelowsCard.stood.looks = Tryd.prog.looks [] := fact_looks
theorem cs : ([52, 48].all fun u => !Tryd.prog.wantsStandIn u) = true := by kernel_rfl
theorem cg : false = Rows.treeBelowsRow.goesBy Tryd.prog := by kernel_rfl
theorem card_holds : Claim7.holds Tryd.pinned (.plain (OpenSpec.ofChange Rows.treeBelowsSpec)) Rows.treeBelowsCard :=
  Claim7.holds_tied_plain_at .later [] _ true Rows.treeBelowsCard.stood.harness Rows.treeBelowsCard.stood.looks over (fun _ h => by cases h) cw (fun _ h => by cases h) treeBelows_row_tie rfl ⟨rfl, rfl⟩ cm rfl
    (fun f fn hf hfn => by
      obtain rfl : f = 7 := Option.some.inj (kf.symm.trans hf) |>.symm
      obtain rfl : fn = Tryd.f7 := (Option.some.inj (Tryd.func7.symm.trans hfn)).symm
      exact ⟨cl, fun j t ht => by
        rw [Tryd.params7] at ht
        have hm : t ∈ [52, 48] := by simpa using Array.mem_of_getElem? ht
        exact (show Tryd.prog.wantsStandIn t = false by simpa using List.all_eq_true.1 cs t hm)⟩)
    cg

/-- the statement -/
theorem proved : Rows.TreeBelowsCardSaid := card_holds
#print axioms proved
end Go.Proofs.YtecpfnobnpddaaaDoor.lawTreeBelows
