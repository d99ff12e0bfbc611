/- The statement ClusterDelivers: closed facts of its row. No condition. -/
import Derived.Test.YtegafdkhbgojcaaGreatDoorRows
import Derived.Test.YtegafdkhbgojcaaGreatDoorOpen
import Derived.Test.YtegafdkhbgojcaaGreatDoorHand
import Derived.Test.YtegafdkhbgojcaaGreatDoorFacts
import Derived.Test.YtegafdkhbgojcaaGreatDoorGoes
import Derived.Test.YtegafdkhbgojcaaGreatDoorCards
import Derived.Test.YtegafdkhbgojcaaGreatDoorTie
set_option linter.unusedVariables false
set_option maxRecDepth 100000
namespace Go.Proofs.YtegafdkhbgojcaaGreatDoor.lawClusterDelivers
open Go.ChangeShapes Go.WideShapes Go.ChangeAt Go.RowKit
open Go.ChangeMaps (open_string shut_string)
theorem k0 : (Rows.clusterDeliversRow.wf (OpenSpec.ofChange Rows.clusterDeliversSpec)) = true := by kernel_rfl
theorem k1 : (laidOutB Tryz.prog) = true := fact_laidOut
theorem k2 : (mapsRowed Tryz.prog) = true := fact_mapsRowed
theorem k3 : (Tryz.f10.params.all (Tryz.prog.readableRec ·)) = true := by kernel_rfl
theorem k4 : (namedTie Tryz.prog Rows.clusterDeliversRow.named Rows.clusterDeliversSpec.vars) = true := by kernel_rfl
theorem k5 : ((Rows.clusterDeliversRow.stops == [])) = true := by kernel_rfl
theorem k6 : ((Tryz.prog.stops == [])) = true := fact_stops
theorem k7 : ((Rows.clusterDeliversRow.knobs == [])) = true := by kernel_rfl
theorem k8 : ((Tryz.prog.stopKnobs == [])) = true := fact_knobs
theorem k9 : ((Rows.clusterDeliversRow.inPlace == Tryz.prog.inPlace 10)) = true := by kernel_rfl
theorem k10 : ((Rows.clusterDeliversRow.unfollowed == Tryz.prog.unfollowed 10)) = true := by kernel_rfl
theorem k11 : ((Rows.clusterDeliversRow.recurses == Tryz.prog.recurses 10)) = true := by kernel_rfl
theorem k12 : ((Rows.clusterDeliversRow.named == Tryz.prog.varsNamed 10)) = true := by kernel_rfl
theorem k13 : ((Rows.clusterDeliversRow.maps == (Tryz.f10.params.toList ++ Rows.clusterDeliversSpec.plain.varTypes Tryz.prog).any (Tryz.prog.mapsRec ·))) = true := by kernel_rfl
theorem k14 : ((Rows.clusterDeliversRow.ifaces == (Tryz.f10.params.toList ++ Rows.clusterDeliversSpec.plain.varTypes Tryz.prog).any (Tryz.prog.ifacesRec ·))) = true := by kernel_rfl
theorem k15 : ((Rows.clusterDeliversRow.mapsOut == Tryz.prog.mapsAmong Tryz.f10.resultTypes.toList)) = true := by kernel_rfl
theorem k16 : ((Rows.clusterDeliversRow.loops == (Tryz.f10.params.toList ++ Rows.clusterDeliversSpec.plain.varTypes Tryz.prog).any (Tryz.prog.loopsFrom ·))) = true := by kernel_rfl
theorem k17 : ((Rows.clusterDeliversRow.wideKeys == (Tryz.f10.params.toList ++ Rows.clusterDeliversSpec.plain.varTypes Tryz.prog ++ Tryz.f10.resultTypes.toList).any (Tryz.prog.wideKeysFrom ·))) = true := by kernel_rfl
theorem k18 : (Rows.clusterDeliversSpec.vars.all (Tryz.prog.varReadable ·)) = true := by kernel_rfl
theorem k19 : (Tryz.f10.resultTypes.all (fun t => Tryz.prog.readableRec t && decide (t < Tryz.prog.types.size))) = true := by kernel_rfl
theorem k20 : ((Rows.clusterDeliversRow.ifacesOut == Tryz.f10.resultTypes.toList.any (Tryz.prog.ifacesRec ·))) = true := by kernel_rfl
theorem k21 : ((Rows.clusterDeliversRow.loopsOut == Tryz.f10.resultTypes.toList.any (Tryz.prog.loopsFrom ·))) = true := by kernel_rfl
theorem k22 : ((Rows.clusterDeliversRow.plainKeys == Tryz.prog.plainKeys)) = true := fact_plainKeys
theorem k23 : (Rows.clusterDeliversRow.shortTexts.isNone) = true := by kernel_rfl
theorem k24 : (Tryz.prog.stopsHeard) = true := fact_heard
theorem k25 : (Tryz.prog.mayEnter) = true := fact_mayEnter
theorem k26 : ((Rows.clusterDeliversRow.lifted == Tryz.prog.liftsFinal)) = true := fact_lifts
theorem k27 : ((Tryz.prog.make == some Rows.clusterDeliversRow.make)) = true := fact_make
theorem k28 : ((Rows.clusterDeliversRow.kinds == (if Rows.clusterDeliversRow.domain.isEmpty then [] else Tryz.f10.params.toList.map fun t => match Tryz.prog.underlying t with | some (.int k) => some k | _ => none))) = true := by kernel_rfl
theorem k29 : ((Rows.clusterDeliversRow.pinned == Rows.clusterDeliversRow.pinnedBy)) = true := by kernel_rfl
theorem k30 : ((Rows.clusterDeliversRow.veiled == (Tryz.f10.params.toList ++ Rows.clusterDeliversSpec.plain.varTypes Tryz.prog ++ Tryz.f10.resultTypes.toList).any (Tryz.prog.veiledRec ·))) = true := by kernel_rfl
theorem k31 : (Rows.clusterDeliversRow.veiledFits Tryz.prog Tryz.f10.params.toList (Tryz.f10.params.toList ++ Rows.clusterDeliversSpec.plain.varTypes Tryz.prog ++ Tryz.f10.resultTypes.toList)) = true := by kernel_rfl
theorem kf : Tryz.prog.funcNamed Rows.clusterDeliversRow.func = some 10 := by kernel_rfl
theorem ki : Tryz.f10.isInstance Tryz.prog Rows.clusterDeliversRow.origin Rows.clusterDeliversRow.targs := of_decide_eq_true (by kernel_rfl)
theorem kw : Tryz.f10.isWrapper Tryz.prog Rows.clusterDeliversRow.wrapper Rows.clusterDeliversRow.mainSum := by unfold Func.isWrapper; first | (rw [if_pos (by decide +kernel)]; kernel_rfl) | (rw [if_neg (by decide +kernel)]; exact ⟨rfl, rfl⟩)
theorem closed : joinedFacts Tryz.prog 10 Tryz.f10 Rows.clusterDeliversSpec Rows.clusterDeliversRow = true := joined_of k0 k1 k2 k3 k4 k5 k6 k7 k8 k9 k10 k11 k12 k13 k14 k15 k16 k17 k18 k19 k20 k21 k22 k23 k24 k25 k26 k27 k28 k29 k30 k31
theorem cw : Rows.clusterDeliversRow.wfByText (OpenSpec.ofChange Rows.clusterDeliversSpec) = true := by kernel_rfl
theorem cm : Tryz.pinned.checked.prog.mainIs = some (Rows.clusterDeliversCard.stood.harness.1, Rows.clusterDeliversCard.stood.harness.2.toList) := fact_main
theorem cl : Rows.clusterDeliversCard.stood.looks = Tryz.prog.looks [] := fact_looks
theorem cs : ([3, 3, 3].all fun u => !Tryz.prog.wantsStandIn u) = true := by kernel_rfl
theorem cg : false = Rows.clusterDeliversRow.goesBy Tryz.prog := goesBy_none fact_goes _
end Go.Proofs.YtegafdkhbgojcaaGreatDoor.lawClusterDelivers
