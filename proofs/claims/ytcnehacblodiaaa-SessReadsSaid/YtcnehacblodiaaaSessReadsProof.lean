/- The statement SessReads: for every input the law answers true, and the input reads as it did. No condition. -/
import Derived.Test.YtcnehacblodiaaaRows
import Derived.Test.YtcnehacblodiaaaSessReads
import Derived.Test.YtcnehacblodiaaaOpen
import Derived.Test.YtcnehacblodiaaaHand
import Derived.Test.YtcnehacblodiaaaFacts
set_option linter.unusedVariables false
set_option maxRecDepth 100000
namespace Go.Proofs.Ytcnehacblodiaaa.lawSessReads
open Go.ChangeShapes Go.WideShapes Go.ChangeAt Go.RowKit
open Go.ChangeMaps (open_string shut_string)
theorem own : ownKnob Try.prog.godebug = none := fact_own
theorem laidOut : laidOutB Try.prog = true := fact_laidOut

set_option maxRecDepth 100000 in
theorem lifted (os : Os) (started : os.Started) (H : Type) (enc : TypeId × Value → H) :
    ReturnsInHanded {} Try.checked os 5 .any (Rows.sessReadsSpec.pre6 enc Try.prog Try.f5 Rows.sessReadsRow.domain false) (Rows.sessReadsSpec.post enc Try.prog Try.f5 false true false false) := by
  refine returnsInHanded_of_change (C := Try.checked) own started (by kernel_rfl) Try.func5
    (ChangeSpec.witness6 (enc := enc) (C := Try.checked) false ⟨#[], #[.string ⟨#[]⟩], []⟩ 8 (by kernel_rfl) (by kernel_rfl) (by kernel_rfl) (by kernel_rfl)) ?_
  intro W base args ds gs before hval0 hW hcnd _
  have hval : ∀ (j : Nat) t v, Try.f5.params[j]? = some t → args[j]? = some v → Value.okWide Try.prog W .any base t v := hval0
  have hW' := hW
  obtain ⟨p, q, hA0, hV, rfl, hfz, hnd⟩ := hW
  have hA : DataW.TrodAll enc Try.prog W 0 (fun _ => true) true Try.f5.params.toList args.toList ds p := hA0
  rw [Try.params5] at hA hval
  obtain ⟨v0, vs0, d0, ds0, p0, q0, hargs, rfl, rfl, h0, r0⟩ := trodAll_cons hA
  obtain ⟨rfl, rfl, rfl⟩ := trodAll_nil r0
  obtain rfl : args = #[v0] := by cases args; simp_all
  obtain ⟨rfl, rfl⟩ := trodVars_none hV
  have k0 := h0
  have lt0 : ∀ x ∈ p0, x.block < W.heap.size := by obtain ⟨m, hm⟩ := k0; exact DataW.trod_lt m _ _ _ hm
  obtain ⟨a0, rfl, b0⟩ := par_string Try.underlying9 (hval 0 9 v0 rfl rfl) h0
  clear hA0 hval0
  refine (reads_walk W a0 b0).mono fun e W' ⟨he, hk⟩ => ?_
  subst he
  have bel : Below W.heap.size W W' := hk.below (Nat.le_refl _) (fun k hk h => by omega)
  exact ⟨_, rfl, _, _, _, [], _, [], hW', trodAll_mk1 (shut_bool Try.underlying4 _), (trodAll_cons_mk (Below.trod laidOut (by kernel_rfl) (of_decide_eq_true (by kernel_rfl)) k0 bel lt0) trodAll_mk0), rfl, bel.frame _, fun h => by cases h⟩
theorem k0 : (Rows.sessReadsRow.wf (OpenSpec.ofChange Rows.sessReadsSpec)) = true := by kernel_rfl
theorem k1 : (laidOutB Try.prog) = true := fact_laidOut
theorem k2 : (mapsRowed Try.prog) = true := fact_mapsRowed
theorem k3 : (Try.f5.params.all (Try.prog.readableRec ·)) = true := by kernel_rfl
theorem k4 : (namedTie Try.prog Rows.sessReadsRow.named Rows.sessReadsSpec.vars) = true := by kernel_rfl
theorem k5 : ((Rows.sessReadsRow.stops == [])) = true := by kernel_rfl
theorem k6 : ((Try.prog.stops == [])) = true := fact_stops
theorem k7 : ((Rows.sessReadsRow.knobs == [])) = true := by kernel_rfl
theorem k8 : ((Try.prog.stopKnobs == [])) = true := fact_knobs
theorem k9 : ((Rows.sessReadsRow.inPlace == Try.prog.inPlace 5)) = true := by kernel_rfl
theorem k10 : ((Rows.sessReadsRow.unfollowed == Try.prog.unfollowed 5)) = true := by kernel_rfl
theorem k11 : ((Rows.sessReadsRow.recurses == Try.prog.recurses 5)) = true := by kernel_rfl
theorem k12 : ((Rows.sessReadsRow.named == Try.prog.varsNamed 5)) = true := by kernel_rfl
theorem k13 : ((Rows.sessReadsRow.maps == (Try.f5.params.toList ++ Rows.sessReadsSpec.plain.varTypes Try.prog).any (Try.prog.mapsRec ·))) = true := by kernel_rfl
theorem k14 : ((Rows.sessReadsRow.ifaces == (Try.f5.params.toList ++ Rows.sessReadsSpec.plain.varTypes Try.prog).any (Try.prog.ifacesRec ·))) = true := by kernel_rfl
theorem k15 : ((Rows.sessReadsRow.mapsOut == Try.prog.mapsAmong Try.f5.resultTypes.toList)) = true := by kernel_rfl
theorem k16 : ((Rows.sessReadsRow.loops == (Try.f5.params.toList ++ Rows.sessReadsSpec.plain.varTypes Try.prog).any (Try.prog.loopsFrom ·))) = true := by kernel_rfl
theorem k17 : ((Rows.sessReadsRow.wideKeys == (Try.f5.params.toList ++ Rows.sessReadsSpec.plain.varTypes Try.prog ++ Try.f5.resultTypes.toList).any (Try.prog.wideKeysFrom ·))) = true := by kernel_rfl
theorem k18 : (Rows.sessReadsSpec.vars.all (Try.prog.varReadable ·)) = true := by kernel_rfl
theorem k19 : (Try.f5.resultTypes.all (fun t => Try.prog.readableRec t && decide (t < Try.prog.types.size))) = true := by kernel_rfl
theorem k20 : ((Rows.sessReadsRow.ifacesOut == Try.f5.resultTypes.toList.any (Try.prog.ifacesRec ·))) = true := by kernel_rfl
theorem k21 : ((Rows.sessReadsRow.loopsOut == Try.f5.resultTypes.toList.any (Try.prog.loopsFrom ·))) = true := by kernel_rfl
theorem k22 : ((Rows.sessReadsRow.plainKeys == Try.prog.plainKeys)) = true := fact_plainKeys
theorem k23 : (Rows.sessReadsRow.shortTexts.isNone) = true := by kernel_rfl
theorem k24 : (Try.prog.stopsHeard) = true := fact_heard
theorem k25 : (Try.prog.mayEnter) = true := fact_mayEnter
theorem k26 : ((Rows.sessReadsRow.lifted == Try.prog.liftsFinal)) = true := fact_lifts
theorem k27 : ((Try.prog.make == some Rows.sessReadsRow.make)) = true := fact_make
theorem k28 : ((Rows.sessReadsRow.kinds == (if Rows.sessReadsRow.domain.isEmpty then [] else Try.f5.params.toList.map fun t => match Try.prog.underlying t with | some (.int k) => some k | _ => none))) = true := by kernel_rfl
theorem k29 : ((Rows.sessReadsRow.pinned == Rows.sessReadsRow.pinnedBy)) = true := by kernel_rfl
theorem k30 : ((Rows.sessReadsRow.veiled == (Try.f5.params.toList ++ Rows.sessReadsSpec.plain.varTypes Try.prog ++ Try.f5.resultTypes.toList).any (Try.prog.veiledRec ·))) = true := by kernel_rfl
theorem k31 : (Rows.sessReadsRow.veiledFits Try.prog Try.f5.params.toList (Try.f5.params.toList ++ Rows.sessReadsSpec.plain.varTypes Try.prog ++ Try.f5.resultTypes.toList)) = true := by kernel_rfl
theorem kf : Try.prog.funcNamed Rows.sessReadsRow.func = some 5 := by kernel_rfl
theorem ki : Try.f5.isInstance Try.prog Rows.sessReadsRow.origin Rows.sessReadsRow.targs := of_decide_eq_true (by kernel_rfl)
theorem kw : Try.f5.isWrapper Try.prog Rows.sessReadsRow.wrapper Rows.sessReadsRow.mainSum := by unfold Func.isWrapper; first | (rw [if_pos (by decide +kernel)]; kernel_rfl) | (rw [if_neg (by decide +kernel)]; exact ⟨rfl, rfl⟩)
theorem closed : joinedFacts Try.prog 5 Try.f5 Rows.sessReadsSpec Rows.sessReadsRow = true := joined_of k0 k1 k2 k3 k4 k5 k6 k7 k8 k9 k10 k11 k12 k13 k14 k15 k16 k17 k18 k19 k20 k21 k22 k23 k24 k25 k26 k27 k28 k29 k30 k31
theorem over : Rows.sessReadsRow.holds Try.pinned (OpenSpec.ofChange Rows.sessReadsSpec) :=
  OpenClaim.holds_of_wide 5 Try.f5 rfl rfl rfl rfl rfl rfl rfl ⟨rfl, rfl, rfl, rfl, rfl⟩ rfl rfl rfl rfl rfl kf Try.func5 closed ki kw (fun os started H enc _ => lifted os started H enc)

/-- the statement -/
theorem proved : Rows.SessReadsSaid := over
#print axioms proved
end Go.Proofs.Ytcnehacblodiaaa.lawSessReads
