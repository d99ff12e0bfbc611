/- The statement SessMany: for every input the law answers true, and the input reads as it did. No condition. -/
import Derived.Test.YtcnehacblodiaaaRows
import Derived.Test.YtcnehacblodiaaaSessMany
import Derived.Test.YtcnehacblodiaaaOpen
import Derived.Test.YtcnehacblodiaaaHand
import Derived.Test.YtcnehacblodiaaaFacts
set_option linter.unusedVariables false
set_option maxRecDepth 100000
namespace Go.Proofs.Ytcnehacblodiaaa.lawSessMany
open Go.ChangeShapes Go.WideShapes Go.ChangeAt Go.RowKit
open Go.ChangeMaps (open_string shut_string)
theorem own : ownKnob Try.prog.godebug = none := fact_own
theorem laidOut : laidOutB Try.prog = true := fact_laidOut

set_option maxRecDepth 100000 in
theorem lifted (os : Os) (started : os.Started) (H : Type) (enc : TypeId × Value → H) :
    ReturnsInHanded {} Try.checked os 3 .any (Rows.sessManySpec.pre6 enc Try.prog Try.f3 Rows.sessManyRow.domain false) (Rows.sessManySpec.post enc Try.prog Try.f3 false true false false) := by
  refine returnsInHanded_of_change (C := Try.checked) own started (by kernel_rfl) Try.func3
    (ChangeSpec.witness6 (enc := enc) (C := Try.checked) false ⟨#[], #[.int .i64 0, .int .i64 0], []⟩ 8 (by kernel_rfl) (by kernel_rfl) (by kernel_rfl) (by kernel_rfl)) ?_
  intro W base args ds gs before hval0 hW hcnd _
  have hval : ∀ (j : Nat) t v, Try.f3.params[j]? = some t → args[j]? = some v → Value.okWide Try.prog W .any base t v := hval0
  have hW' := hW
  obtain ⟨p, q, hA0, hV, rfl, hfz, hnd⟩ := hW
  have hA : DataW.TrodAll enc Try.prog W 0 (fun _ => true) true Try.f3.params.toList args.toList ds p := hA0
  rw [Try.params3] at hA hval
  obtain ⟨v0, vs0, d0, ds0, p0, q0, hargs, rfl, rfl, h0, r0⟩ := trodAll_cons hA
  obtain ⟨v1, vs1, d1, ds1, p1, q1, rfl, rfl, rfl, h1, r1⟩ := trodAll_cons r0
  obtain ⟨rfl, rfl, rfl⟩ := trodAll_nil r1
  obtain rfl : args = #[v0, v1] := by cases args; simp_all
  obtain ⟨rfl, rfl⟩ := trodVars_none hV
  have k0 := h0
  have lt0 : ∀ x ∈ p0, x.block < W.heap.size := by obtain ⟨m, hm⟩ := k0; exact DataW.trod_lt m _ _ _ hm
  have k1 := h1
  have lt1 : ∀ x ∈ p1, x.block < W.heap.size := by obtain ⟨m, hm⟩ := k1; exact DataW.trod_lt m _ _ _ hm
  obtain ⟨a0, rfl, b0⟩ := par_int Try.underlying3 (hval 0 3 v0 rfl rfl) h0
  obtain ⟨a1, rfl, b1⟩ := par_int Try.underlying3 (hval 1 3 v1 rfl rfl) h1
  clear hA0 hval0
  refine (many_walk W a0 a1).mono fun e W' ⟨he, hk⟩ => ?_
  subst he
  have bel : Below W.heap.size W W' := hk.below (Nat.le_refl _) (fun k hk h => by omega)
  exact ⟨_, rfl, _, _, _, [], _, [], hW', trodAll_mk1 (shut_bool Try.underlying4 _), (trodAll_cons_mk (Below.trod laidOut (by kernel_rfl) (of_decide_eq_true (by kernel_rfl)) k0 bel lt0) (trodAll_cons_mk (Below.trod laidOut (by kernel_rfl) (of_decide_eq_true (by kernel_rfl)) k1 bel lt1) trodAll_mk0)), rfl, bel.frame _, fun h => by cases h⟩
theorem k0 : (Rows.sessManyRow.wf (OpenSpec.ofChange Rows.sessManySpec)) = true := by kernel_rfl
theorem k1 : (laidOutB Try.prog) = true := fact_laidOut
theorem k2 : (mapsRowed Try.prog) = true := fact_mapsRowed
theorem k3 : (Try.f3.params.all (Try.prog.readableRec ·)) = true := by kernel_rfl
theorem k4 : (namedTie Try.prog Rows.sessManyRow.named Rows.sessManySpec.vars) = true := by kernel_rfl
theorem k5 : ((Rows.sessManyRow.stops == [])) = true := by kernel_rfl
theorem k6 : ((Try.prog.stops == [])) = true := fact_stops
theorem k7 : ((Rows.sessManyRow.knobs == [])) = true := by kernel_rfl
theorem k8 : ((Try.prog.stopKnobs == [])) = true := fact_knobs
theorem k9 : ((Rows.sessManyRow.inPlace == Try.prog.inPlace 3)) = true := by kernel_rfl
theorem k10 : ((Rows.sessManyRow.unfollowed == Try.prog.unfollowed 3)) = true := by kernel_rfl
theorem k11 : ((Rows.sessManyRow.recurses == Try.prog.recurses 3)) = true := by kernel_rfl
theorem k12 : ((Rows.sessManyRow.named == Try.prog.varsNamed 3)) = true := by kernel_rfl
theorem k13 : ((Rows.sessManyRow.maps == (Try.f3.params.toList ++ Rows.sessManySpec.plain.varTypes Try.prog).any (Try.prog.mapsRec ·))) = true := by kernel_rfl
theorem k14 : ((Rows.sessManyRow.ifaces == (Try.f3.params.toList ++ Rows.sessManySpec.plain.varTypes Try.prog).any (Try.prog.ifacesRec ·))) = true := by kernel_rfl
theorem k15 : ((Rows.sessManyRow.mapsOut == Try.prog.mapsAmong Try.f3.resultTypes.toList)) = true := by kernel_rfl
theorem k16 : ((Rows.sessManyRow.loops == (Try.f3.params.toList ++ Rows.sessManySpec.plain.varTypes Try.prog).any (Try.prog.loopsFrom ·))) = true := by kernel_rfl
theorem k17 : ((Rows.sessManyRow.wideKeys == (Try.f3.params.toList ++ Rows.sessManySpec.plain.varTypes Try.prog ++ Try.f3.resultTypes.toList).any (Try.prog.wideKeysFrom ·))) = true := by kernel_rfl
theorem k18 : (Rows.sessManySpec.vars.all (Try.prog.varReadable ·)) = true := by kernel_rfl
theorem k19 : (Try.f3.resultTypes.all (fun t => Try.prog.readableRec t && decide (t < Try.prog.types.size))) = true := by kernel_rfl
theorem k20 : ((Rows.sessManyRow.ifacesOut == Try.f3.resultTypes.toList.any (Try.prog.ifacesRec ·))) = true := by kernel_rfl
theorem k21 : ((Rows.sessManyRow.loopsOut == Try.f3.resultTypes.toList.any (Try.prog.loopsFrom ·))) = true := by kernel_rfl
theorem k22 : ((Rows.sessManyRow.plainKeys == Try.prog.plainKeys)) = true := fact_plainKeys
theorem k23 : (Rows.sessManyRow.shortTexts.isNone) = true := by kernel_rfl
theorem k24 : (Try.prog.stopsHeard) = true := fact_heard
theorem k25 : (Try.prog.mayEnter) = true := fact_mayEnter
theorem k26 : ((Rows.sessManyRow.lifted == Try.prog.liftsFinal)) = true := fact_lifts
theorem k27 : ((Try.prog.make == some Rows.sessManyRow.make)) = true := fact_make
theorem k28 : ((Rows.sessManyRow.kinds == (if Rows.sessManyRow.domain.isEmpty then [] else Try.f3.params.toList.map fun t => match Try.prog.underlying t with | some (.int k) => some k | _ => none))) = true := by kernel_rfl
theorem k29 : ((Rows.sessManyRow.pinned == Rows.sessManyRow.pinnedBy)) = true := by kernel_rfl
theorem k30 : ((Rows.sessManyRow.veiled == (Try.f3.params.toList ++ Rows.sessManySpec.plain.varTypes Try.prog ++ Try.f3.resultTypes.toList).any (Try.prog.veiledRec ·))) = true := by kernel_rfl
theorem k31 : (Rows.sessManyRow.veiledFits Try.prog Try.f3.params.toList (Try.f3.params.toList ++ Rows.sessManySpec.plain.varTypes Try.prog ++ Try.f3.resultTypes.toList)) = true := by kernel_rfl
theorem kf : Try.prog.funcNamed Rows.sessManyRow.func = some 3 := by kernel_rfl
theorem ki : Try.f3.isInstance Try.prog Rows.sessManyRow.origin Rows.sessManyRow.targs := of_decide_eq_true (by kernel_rfl)
theorem kw : Try.f3.isWrapper Try.prog Rows.sessManyRow.wrapper Rows.sessManyRow.mainSum := by unfold Func.isWrapper; first | (rw [if_pos (by decide +kernel)]; kernel_rfl) | (rw [if_neg (by decide +kernel)]; exact ⟨rfl, rfl⟩)
theorem closed : joinedFacts Try.prog 3 Try.f3 Rows.sessManySpec Rows.sessManyRow = true := joined_of k0 k1 k2 k3 k4 k5 k6 k7 k8 k9 k10 k11 k12 k13 k14 k15 k16 k17 k18 k19 k20 k21 k22 k23 k24 k25 k26 k27 k28 k29 k30 k31
theorem over : Rows.sessManyRow.holds Try.pinned (OpenSpec.ofChange Rows.sessManySpec) :=
  OpenClaim.holds_of_wide 3 Try.f3 rfl rfl rfl rfl rfl rfl rfl ⟨rfl, rfl, rfl, rfl, rfl⟩ rfl rfl rfl rfl rfl kf Try.func3 closed ki kw (fun os started H enc _ => lifted os started H enc)

/-- the statement -/
theorem proved : Rows.SessManySaid := over
#print axioms proved
end Go.Proofs.Ytcnehacblodiaaa.lawSessMany
