/- The statement SessActs: for every input the law answers true, and the input reads as it did. No condition. -/
import Derived.Test.YtcnehacblodiaaaRows
import Derived.Test.YtcnehacblodiaaaSessActs
import Derived.Test.YtcnehacblodiaaaDecAct
import Derived.Test.YtcnehacblodiaaaHand
import Derived.Test.YtcnehacblodiaaaFacts
set_option linter.unusedVariables false
set_option maxRecDepth 100000
namespace Go.Proofs.Ytcnehacblodiaaa.lawSessActs
open Go.ChangeShapes Go.WideShapes Go.ChangeAt Go.RowKit
open Go.ChangeMaps (open_string shut_string)
theorem own : ownKnob Try.prog.godebug = none := fact_own
theorem laidOut : laidOutB Try.prog = true := fact_laidOut

set_option maxRecDepth 100000 in
theorem lifted (os : Os) (started : os.Started) (H : Type) (enc : TypeId × Value → H) :
    ReturnsInHanded {} Try.checked os 4 .any (Rows.sessActsSpec.pre6 enc Try.prog Try.f4 Rows.sessActsRow.domain false) (Rows.sessActsSpec.post enc Try.prog Try.f4 false true false false) := by
  refine returnsInHanded_of_change (C := Try.checked) own started (by kernel_rfl) Try.func4
    (ChangeSpec.witness6 (enc := enc) (C := Try.checked) false ⟨#[], #[.slice none 0 0], []⟩ 8 (by kernel_rfl) (by kernel_rfl) (by kernel_rfl) (by kernel_rfl)) ?_
  intro W base args ds gs before hval0 hW hcnd _
  have hval : ∀ (j : Nat) t v, Try.f4.params[j]? = some t → args[j]? = some v → Value.okWide Try.prog W .any base t v := hval0
  have hW' := hW
  obtain ⟨p, q, hA0, hV, rfl, hfz, hnd⟩ := hW
  have hA : DataW.TrodAll enc Try.prog W 0 (fun _ => true) true Try.f4.params.toList args.toList ds p := hA0
  rw [Try.params4] at hA hval
  obtain ⟨v0, vs0, d0, ds0, p0, q0, hargs, rfl, rfl, h0, r0⟩ := trodAll_cons hA
  obtain ⟨rfl, rfl, rfl⟩ := trodAll_nil r0
  obtain rfl : args = #[v0] := by cases args; simp_all
  obtain ⟨rfl, rfl⟩ := trodVars_none hV
  have k0 := h0
  have lt0 : ∀ x ∈ p0, x.block < W.heap.size := by obtain ⟨m, hm⟩ := k0; exact DataW.trod_lt m _ _ _ hm
  obtain ⟨A0, c0, a0, rfl, s0, g0, l0⟩ := par_slice Try.underlying31 (hval 0 31 v0 rfl rfl) (dec_act) h0
  rw [show Try.prog.cellsOf 38 = 4 from by kernel_rfl] at s0
  clear hA0 hval0
  refine (acts_walk W A0 a0 c0 s0 l0 (fun a ha => (g0 a ha).1)).mono fun e W' ⟨he, hk⟩ => ?_
  subst he
  have bel : Below W.heap.size W W' := hk.below (Nat.le_refl _) (fun k hk h => by omega)
  exact ⟨_, rfl, _, _, _, [], _, [], hW', trodAll_mk1 (shut_bool Try.underlying4 _), (trodAll_cons_mk (Below.trod laidOut (by kernel_rfl) (of_decide_eq_true (by kernel_rfl)) k0 bel lt0) trodAll_mk0), rfl, bel.frame _, fun h => by cases h⟩
theorem k0 : (Rows.sessActsRow.wf (OpenSpec.ofChange Rows.sessActsSpec)) = true := by kernel_rfl
theorem k1 : (laidOutB Try.prog) = true := fact_laidOut
theorem k2 : (mapsRowed Try.prog) = true := fact_mapsRowed
theorem k3 : (Try.f4.params.all (Try.prog.readableRec ·)) = true := by kernel_rfl
theorem k4 : (namedTie Try.prog Rows.sessActsRow.named Rows.sessActsSpec.vars) = true := by kernel_rfl
theorem k5 : ((Rows.sessActsRow.stops == [])) = true := by kernel_rfl
theorem k6 : ((Try.prog.stops == [])) = true := fact_stops
theorem k7 : ((Rows.sessActsRow.knobs == [])) = true := by kernel_rfl
theorem k8 : ((Try.prog.stopKnobs == [])) = true := fact_knobs
theorem k9 : ((Rows.sessActsRow.inPlace == Try.prog.inPlace 4)) = true := by kernel_rfl
theorem k10 : ((Rows.sessActsRow.unfollowed == Try.prog.unfollowed 4)) = true := by kernel_rfl
theorem k11 : ((Rows.sessActsRow.recurses == Try.prog.recurses 4)) = true := by kernel_rfl
theorem k12 : ((Rows.sessActsRow.named == Try.prog.varsNamed 4)) = true := by kernel_rfl
theorem k13 : ((Rows.sessActsRow.maps == (Try.f4.params.toList ++ Rows.sessActsSpec.plain.varTypes Try.prog).any (Try.prog.mapsRec ·))) = true := by kernel_rfl
theorem k14 : ((Rows.sessActsRow.ifaces == (Try.f4.params.toList ++ Rows.sessActsSpec.plain.varTypes Try.prog).any (Try.prog.ifacesRec ·))) = true := by kernel_rfl
theorem k15 : ((Rows.sessActsRow.mapsOut == Try.prog.mapsAmong Try.f4.resultTypes.toList)) = true := by kernel_rfl
theorem k16 : ((Rows.sessActsRow.loops == (Try.f4.params.toList ++ Rows.sessActsSpec.plain.varTypes Try.prog).any (Try.prog.loopsFrom ·))) = true := by kernel_rfl
theorem k17 : ((Rows.sessActsRow.wideKeys == (Try.f4.params.toList ++ Rows.sessActsSpec.plain.varTypes Try.prog ++ Try.f4.resultTypes.toList).any (Try.prog.wideKeysFrom ·))) = true := by kernel_rfl
theorem k18 : (Rows.sessActsSpec.vars.all (Try.prog.varReadable ·)) = true := by kernel_rfl
theorem k19 : (Try.f4.resultTypes.all (fun t => Try.prog.readableRec t && decide (t < Try.prog.types.size))) = true := by kernel_rfl
theorem k20 : ((Rows.sessActsRow.ifacesOut == Try.f4.resultTypes.toList.any (Try.prog.ifacesRec ·))) = true := by kernel_rfl
theorem k21 : ((Rows.sessActsRow.loopsOut == Try.f4.resultTypes.toList.any (Try.prog.loopsFrom ·))) = true := by kernel_rfl
theorem k22 : ((Rows.sessActsRow.plainKeys == Try.prog.plainKeys)) = true := fact_plainKeys
theorem k23 : (Rows.sessActsRow.shortTexts.isNone) = true := by kernel_rfl
theorem k24 : (Try.prog.stopsHeard) = true := fact_heard
theorem k25 : (Try.prog.mayEnter) = true := fact_mayEnter
theorem k26 : ((Rows.sessActsRow.lifted == Try.prog.liftsFinal)) = true := fact_lifts
theorem k27 : ((Try.prog.make == some Rows.sessActsRow.make)) = true := fact_make
theorem k28 : ((Rows.sessActsRow.kinds == (if Rows.sessActsRow.domain.isEmpty then [] else Try.f4.params.toList.map fun t => match Try.prog.underlying t with | some (.int k) => some k | _ => none))) = true := by kernel_rfl
theorem k29 : ((Rows.sessActsRow.pinned == Rows.sessActsRow.pinnedBy)) = true := by kernel_rfl
theorem k30 : ((Rows.sessActsRow.veiled == (Try.f4.params.toList ++ Rows.sessActsSpec.plain.varTypes Try.prog ++ Try.f4.resultTypes.toList).any (Try.prog.veiledRec ·))) = true := by kernel_rfl
theorem k31 : (Rows.sessActsRow.veiledFits Try.prog Try.f4.params.toList (Try.f4.params.toList ++ Rows.sessActsSpec.plain.varTypes Try.prog ++ Try.f4.resultTypes.toList)) = true := by kernel_rfl
theorem kf : Try.prog.funcNamed Rows.sessActsRow.func = some 4 := by kernel_rfl
theorem ki : Try.f4.isInstance Try.prog Rows.sessActsRow.origin Rows.sessActsRow.targs := of_decide_eq_true (by kernel_rfl)
theorem kw : Try.f4.isWrapper Try.prog Rows.sessActsRow.wrapper Rows.sessActsRow.mainSum := by unfold Func.isWrapper; first | (rw [if_pos (by decide +kernel)]; kernel_rfl) | (rw [if_neg (by decide +kernel)]; exact ⟨rfl, rfl⟩)
theorem closed : joinedFacts Try.prog 4 Try.f4 Rows.sessActsSpec Rows.sessActsRow = true := joined_of k0 k1 k2 k3 k4 k5 k6 k7 k8 k9 k10 k11 k12 k13 k14 k15 k16 k17 k18 k19 k20 k21 k22 k23 k24 k25 k26 k27 k28 k29 k30 k31
theorem over : Rows.sessActsRow.holds Try.pinned (OpenSpec.ofChange Rows.sessActsSpec) :=
  OpenClaim.holds_of_wide 4 Try.f4 rfl rfl rfl rfl rfl rfl rfl ⟨rfl, rfl, rfl, rfl, rfl⟩ rfl rfl rfl rfl rfl kf Try.func4 closed ki kw (fun os started H enc _ => lifted os started H enc)

/-- the statement -/
theorem proved : Rows.SessActsSaid := over
#print axioms proved
end Go.Proofs.Ytcnehacblodiaaa.lawSessActs
