/- The statement ClusterNew: for every input the law answers true, and the input reads as it did. No condition. -/
import Derived.Test.YtegafdkhbgojcaaGreatDoorRows
import Derived.Test.YtegafdkhbgojcaaGreatDoorCNW
import Derived.Test.YtegafdkhbgojcaaGreatDoorOpen
import Derived.Test.YtegafdkhbgojcaaGreatDoorHand
import Derived.Test.YtegafdkhbgojcaaGreatDoorFacts
import Derived.Test.YtegafdkhbgojcaaGreatDoorGoes
import Derived.Test.YtegafdkhbgojcaaGreatDoorCards
import Derived.Test.YtegafdkhbgojcaaGreatDoorTie
set_option linter.unusedVariables false
set_option maxRecDepth 100000
namespace Go.Proofs.YtegafdkhbgojcaaGreatDoor.lawClusterNew
open Go.ChangeShapes Go.WideShapes Go.ChangeAt Go.RowKit
open Go.ChangeMaps (open_string shut_string)
theorem own : ownKnob Tryz.prog.godebug = none := fact_own
theorem laidOut : laidOutB Tryz.prog = true := fact_laidOut

set_option maxRecDepth 100000 in
theorem lifted (os : Os) (started : os.Started) (H : Type) (enc : TypeId × Value → H) :
    ReturnsInHanded {} Tryz.checked os 8 .any (fun w args => (Rows.clusterNewSpec.pre enc Tryz.prog Tryz.f8 [] false w args ∧ laidMetH Tryz.prog Rows.clusterNewRow.laid w) ∧ sizedMet enc Tryz.prog Tryz.f8 (OpenSpec.ofChange Rows.clusterNewSpec) false w args) (Rows.clusterNewSpec.post enc Tryz.prog Tryz.f8 false true false false) := by
  refine handed_all (C := Tryz.checked) (X := fun w _ => laidMetH Tryz.prog Rows.clusterNewRow.laid w) (fun _ _ _ hh h => h.of_heap hh) own started (by kernel_rfl) Tryz.func8
    (ChangeSpec.witness_shaped (enc := enc) (C := Tryz.checked) (os := os) (X := fun w _ => laidMetH Tryz.prog Rows.clusterNewRow.laid w) false (World.laidAll Tryz.prog os Rows.clusterNewRow.laid) #[.int .i64 0, .int .i64 0] 8 (World.laidAll_os _ _ _)
      (World.shaped_of_ZipB (by kernel_rfl) (by kernel_rfl)) (by kernel_rfl) (by kernel_rfl) (by kernel_rfl)
      (by rw [MakeChecks.laidMetH_plain _ _ _ (by kernel_rfl)]; exact laidMet_laidAll _ (by kernel_rfl) (by kernel_rfl))) ?_
  intro W base args ds gs before hval0 hW hcnd _ hL hsh _
  have hval : ∀ (j : Nat) t v, Tryz.f8.params[j]? = some t → args[j]? = some v → Value.okWide Tryz.prog W .any base t v := hval0
  have hW' := hW
  obtain ⟨p, q, hA0, hV, rfl, hfz, hnd⟩ := hW
  have hA : DataW.TrodAll enc Tryz.prog W 0 (fun _ => true) true Tryz.f8.params.toList args.toList ds p := hA0
  rw [Tryz.params8] at hA hval
  obtain ⟨v0, vs0, d0, ds0, p0, q0, hargs, rfl, rfl, h0, r0⟩ := trodAll_cons hA
  obtain ⟨v1, vs1, d1, ds1, p1, q1, rfl, rfl, rfl, h1, r1⟩ := trodAll_cons r0
  obtain ⟨rfl, rfl, rfl⟩ := trodAll_nil r1
  obtain rfl : args = #[v0, v1] := by cases args; simp_all
  obtain ⟨rfl, rfl⟩ := trodVars_none hV
  have k0 := h0
  have lt0 : ∀ x ∈ p0, x.block < W.heap.size := by obtain ⟨m, hm⟩ := k0; exact DataW.trod_lt m _ _ _ hm
  have k1 := h1
  have lt1 : ∀ x ∈ p1, x.block < W.heap.size := by obtain ⟨m, hm⟩ := k1; exact DataW.trod_lt m _ _ _ hm
  obtain ⟨a0, rfl, b0⟩ := par_int Tryz.underlying3 (hval 0 3 v0 rfl rfl) h0
  obtain ⟨a1, rfl, b1⟩ := par_int Tryz.underlying3 (hval 1 3 v1 rfl rfl) h1
  clear hA0 hval0
  refine (Ek.new_walk W a0 a1).mono fun e W' ⟨he, hk⟩ => ?_
  subst he
  have bel : Below W.heap.size W W' := hk.below (Nat.le_refl _) (fun k hk h => by omega)
  exact ⟨_, rfl, _, _, _, [], _, [], hW', trodAll_mk1 (shut_bool Tryz.underlying4 _), (trodAll_cons_mk (Below.trod laidOut (by kernel_rfl) (of_decide_eq_true (by kernel_rfl)) k0 bel lt0) (trodAll_cons_mk (Below.trod laidOut (by kernel_rfl) (of_decide_eq_true (by kernel_rfl)) k1 bel lt1) trodAll_mk0)), rfl, bel.frame _, fun h => by cases h⟩
theorem k0 : (Rows.clusterNewRow.wf (OpenSpec.ofChange Rows.clusterNewSpec)) = true := by kernel_rfl
theorem k1 : (laidOutB Tryz.prog) = true := fact_laidOut
theorem k2 : (mapsRowed Tryz.prog) = true := fact_mapsRowed
theorem k3 : (Tryz.f8.params.all (Tryz.prog.readableRec ·)) = true := by kernel_rfl
theorem k4 : (namedTie Tryz.prog Rows.clusterNewRow.named Rows.clusterNewSpec.vars) = true := by kernel_rfl
theorem k5 : ((Rows.clusterNewRow.stops == [])) = true := by kernel_rfl
theorem k6 : ((Tryz.prog.stops == [])) = true := fact_stops
theorem k7 : ((Rows.clusterNewRow.knobs == [])) = true := by kernel_rfl
theorem k8 : ((Tryz.prog.stopKnobs == [])) = true := fact_knobs
theorem k9 : ((Rows.clusterNewRow.inPlace == Tryz.prog.inPlace 8)) = true := by kernel_rfl
theorem k10 : ((Rows.clusterNewRow.unfollowed == Tryz.prog.unfollowed 8)) = true := by kernel_rfl
theorem k11 : ((Rows.clusterNewRow.recurses == Tryz.prog.recurses 8)) = true := by kernel_rfl
theorem k12 : ((Rows.clusterNewRow.named == Tryz.prog.varsNamed 8)) = true := by kernel_rfl
theorem k13 : ((Rows.clusterNewRow.maps == (Tryz.f8.params.toList ++ Rows.clusterNewSpec.plain.varTypes Tryz.prog).any (Tryz.prog.mapsRec ·))) = true := by kernel_rfl
theorem k14 : ((Rows.clusterNewRow.ifaces == (Tryz.f8.params.toList ++ Rows.clusterNewSpec.plain.varTypes Tryz.prog).any (Tryz.prog.ifacesRec ·))) = true := by kernel_rfl
theorem k15 : ((Rows.clusterNewRow.mapsOut == Tryz.prog.mapsAmong Tryz.f8.resultTypes.toList)) = true := by kernel_rfl
theorem k16 : ((Rows.clusterNewRow.loops == (Tryz.f8.params.toList ++ Rows.clusterNewSpec.plain.varTypes Tryz.prog).any (Tryz.prog.loopsFrom ·))) = true := by kernel_rfl
theorem k17 : ((Rows.clusterNewRow.wideKeys == (Tryz.f8.params.toList ++ Rows.clusterNewSpec.plain.varTypes Tryz.prog ++ Tryz.f8.resultTypes.toList).any (Tryz.prog.wideKeysFrom ·))) = true := by kernel_rfl
theorem k18 : (Rows.clusterNewSpec.vars.all (Tryz.prog.varReadable ·)) = true := by kernel_rfl
theorem k19 : (Tryz.f8.resultTypes.all (fun t => Tryz.prog.readableRec t && decide (t < Tryz.prog.types.size))) = true := by kernel_rfl
theorem k20 : ((Rows.clusterNewRow.ifacesOut == Tryz.f8.resultTypes.toList.any (Tryz.prog.ifacesRec ·))) = true := by kernel_rfl
theorem k21 : ((Rows.clusterNewRow.loopsOut == Tryz.f8.resultTypes.toList.any (Tryz.prog.loopsFrom ·))) = true := by kernel_rfl
theorem k22 : ((Rows.clusterNewRow.plainKeys == Tryz.prog.plainKeys)) = true := fact_plainKeys
theorem k23 : (Rows.clusterNewRow.shortTexts.isNone) = true := by kernel_rfl
theorem k24 : (Tryz.prog.stopsHeard) = true := fact_heard
theorem k25 : (Tryz.prog.mayEnter) = true := fact_mayEnter
theorem k26 : ((Rows.clusterNewRow.lifted == Tryz.prog.liftsFinal)) = true := fact_lifts
theorem k27 : ((Tryz.prog.make == some Rows.clusterNewRow.make)) = true := fact_make
theorem k28 : ((Rows.clusterNewRow.kinds == (if Rows.clusterNewRow.domain.isEmpty then [] else Tryz.f8.params.toList.map fun t => match Tryz.prog.underlying t with | some (.int k) => some k | _ => none))) = true := by kernel_rfl
theorem k29 : ((Rows.clusterNewRow.pinned == Rows.clusterNewRow.pinnedBy)) = true := by kernel_rfl
theorem k30 : ((Rows.clusterNewRow.veiled == (Tryz.f8.params.toList ++ Rows.clusterNewSpec.plain.varTypes Tryz.prog ++ Tryz.f8.resultTypes.toList).any (Tryz.prog.veiledRec ·))) = true := by kernel_rfl
theorem k31 : (Rows.clusterNewRow.veiledFits Tryz.prog Tryz.f8.params.toList (Tryz.f8.params.toList ++ Rows.clusterNewSpec.plain.varTypes Tryz.prog ++ Tryz.f8.resultTypes.toList)) = true := by kernel_rfl
theorem kf : Tryz.prog.funcNamed Rows.clusterNewRow.func = some 8 := by kernel_rfl
theorem ki : Tryz.f8.isInstance Tryz.prog Rows.clusterNewRow.origin Rows.clusterNewRow.targs := of_decide_eq_true (by kernel_rfl)
theorem kw : Tryz.f8.isWrapper Tryz.prog Rows.clusterNewRow.wrapper Rows.clusterNewRow.mainSum := by unfold Func.isWrapper; first | (rw [if_pos (by decide +kernel)]; kernel_rfl) | (rw [if_neg (by decide +kernel)]; exact ⟨rfl, rfl⟩)
theorem closed : joinedFacts Tryz.prog 8 Tryz.f8 Rows.clusterNewSpec Rows.clusterNewRow = true := joined_of k0 k1 k2 k3 k4 k5 k6 k7 k8 k9 k10 k11 k12 k13 k14 k15 k16 k17 k18 k19 k20 k21 k22 k23 k24 k25 k26 k27 k28 k29 k30 k31
theorem over : Rows.clusterNewRow.holds Tryz.pinned (OpenSpec.ofChange Rows.clusterNewSpec) :=
  OpenClaim.holds_of_wide 8 Tryz.f8 rfl rfl rfl rfl rfl rfl rfl ⟨rfl, rfl, rfl, rfl, rfl⟩ rfl rfl rfl rfl rfl kf Tryz.func8 closed ki kw (fun os started H enc _ => lifted os started H enc)

theorem cw : Rows.clusterNewRow.wfByText (OpenSpec.ofChange Rows.clusterNewSpec) = true := by kernel_rfl
theorem cm : Tryz.pinned.checked.prog.mainIs = some (Rows.clusterNewCard.stood.harness.1, Rows.clusterNewCard.stood.harness.2.toList) := fact_main
theorem cl : Rows.clusterNewCard.stood.looks = Tryz.prog.looks [] := fact_looks
theorem cs : ([3, 3].all fun u => !Tryz.prog.wantsStandIn u) = true := by kernel_rfl
theorem cg : false = Rows.clusterNewRow.goesBy Tryz.prog := goesBy_none fact_goes _
theorem card_holds : Claim7.holds Tryz.pinned (.plain (OpenSpec.ofChange Rows.clusterNewSpec)) Rows.clusterNewCard :=
  Claim7.holds_tied_plain_at .later [] _ true Rows.clusterNewCard.stood.harness Rows.clusterNewCard.stood.looks over (fun _ h => by cases h) cw (fun _ h => by cases h) clusterNew_row_tie rfl ⟨rfl, rfl⟩ cm rfl
    (fun f fn hf hfn => by
      obtain rfl : f = 8 := Option.some.inj (kf.symm.trans hf) |>.symm
      obtain rfl : fn = Tryz.f8 := (Option.some.inj (Tryz.func8.symm.trans hfn)).symm
      exact ⟨cl, fun j t ht => by
        rw [Tryz.params8] at ht
        have hm : t ∈ [3, 3] := by simpa using Array.mem_of_getElem? ht
        exact (show Tryz.prog.wantsStandIn t = false by simpa using List.all_eq_true.1 cs t hm)⟩)
    cg

/-- the statement -/
theorem proved : Rows.ClusterNewCardSaid := card_holds
#print axioms proved
end Go.Proofs.YtegafdkhbgojcaaGreatDoor.lawClusterNew
