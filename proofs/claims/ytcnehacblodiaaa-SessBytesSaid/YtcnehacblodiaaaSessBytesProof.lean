/- The statement SessBytes: for every input the law answers true, and the input reads as it did. No condition. -/
import Derived.Test.YtcnehacblodiaaaRows
import Derived.Test.YtcnehacblodiaaaSessBytes
import Derived.Test.YtcnehacblodiaaaDecAct
import Derived.Test.YtcnehacblodiaaaHand
import Derived.Test.YtcnehacblodiaaaFacts
set_option linter.unusedVariables false
set_option maxRecDepth 100000
namespace Go.Proofs.Ytcnehacblodiaaa.lawSessBytes
open Go.ChangeShapes Go.WideShapes Go.ChangeAt Go.RowKit
open Go.ChangeMaps (open_string shut_string)
theorem own : ownKnob Try.prog.godebug = none := fact_own
theorem laidOut : laidOutB Try.prog = true := fact_laidOut

set_option maxRecDepth 100000 in
theorem lifted (os : Os) (started : os.Started) (H : Type) (enc : TypeId × Value → H) :
    ReturnsInHanded {} Try.checked os 6 .any (Rows.sessBytesSpec.pre6 enc Try.prog Try.f6 Rows.sessBytesRow.domain false) (Rows.sessBytesSpec.post enc Try.prog Try.f6 false true false false) := by
  refine returnsInHanded_of_change (C := Try.checked) own started (by kernel_rfl) Try.func6
    (ChangeSpec.witness6 (enc := enc) (C := Try.checked) false ⟨#[], #[.slice none 0 0, .slice none 0 0, .int .i64 0], []⟩ 8 (by kernel_rfl) (by kernel_rfl) (by kernel_rfl) (by kernel_rfl)) ?_
  intro W base args ds gs before hval0 hW hcnd _
  have hval : ∀ (j : Nat) t v, Try.f6.params[j]? = some t → args[j]? = some v → Value.okWide Try.prog W .any base t v := hval0
  have hW' := hW
  obtain ⟨p, q, hA0, hV, rfl, hfz, hnd⟩ := hW
  have hA : DataW.TrodAll enc Try.prog W 0 (fun _ => true) true Try.f6.params.toList args.toList ds p := hA0
  rw [Try.params6] at hA hval
  obtain ⟨v0, vs0, d0, ds0, p0, q0, hargs, rfl, rfl, h0, r0⟩ := trodAll_cons hA
  obtain ⟨v1, vs1, d1, ds1, p1, q1, rfl, rfl, rfl, h1, r1⟩ := trodAll_cons r0
  obtain ⟨v2, vs2, d2, ds2, p2, q2, rfl, rfl, rfl, h2, r2⟩ := trodAll_cons r1
  obtain ⟨rfl, rfl, rfl⟩ := trodAll_nil r2
  obtain rfl : args = #[v0, v1, v2] := by cases args; simp_all
  obtain ⟨rfl, rfl⟩ := trodVars_none hV
  have k0 := h0
  have lt0 : ∀ x ∈ p0, x.block < W.heap.size := by obtain ⟨m, hm⟩ := k0; exact DataW.trod_lt m _ _ _ hm
  have k1 := h1
  have lt1 : ∀ x ∈ p1, x.block < W.heap.size := by obtain ⟨m, hm⟩ := k1; exact DataW.trod_lt m _ _ _ hm
  have k2 := h2
  have lt2 : ∀ x ∈ p2, x.block < W.heap.size := by obtain ⟨m, hm⟩ := k2; exact DataW.trod_lt m _ _ _ hm
  obtain ⟨A0, c0, a0, rfl, s0, g0, l0⟩ := par_slice Try.underlying31 (hval 0 31 v0 rfl rfl) (dec_act) h0
  rw [show Try.prog.cellsOf 38 = 4 from by kernel_rfl] at s0
  obtain ⟨A1, c1, a1, rfl, s1, g1, l1⟩ := par_slice Try.underlying31 (hval 1 31 v1 rfl rfl) (dec_act) h1
  rw [show Try.prog.cellsOf 38 = 4 from by kernel_rfl] at s1
  obtain ⟨a2, rfl, b2⟩ := par_int Try.underlying3 (hval 2 3 v2 rfl rfl) h2
  clear hA0 hval0
  refine (sbytes_walk W A0 a0 c0 s0 l0 (fun a ha => (g0 a ha).1) A1 a1 c1 s1 l1 (fun a ha => (g1 a ha).1) a2).mono fun e W' ⟨he, hk⟩ => ?_
  subst he
  have bel : Below W.heap.size W W' := hk.below (Nat.le_refl _) (fun k hk h => by omega)
  exact ⟨_, rfl, _, _, _, [], _, [], hW', trodAll_mk1 (shut_bool Try.underlying4 _), (trodAll_cons_mk (Below.trod laidOut (by kernel_rfl) (of_decide_eq_true (by kernel_rfl)) k0 bel lt0) (trodAll_cons_mk (Below.trod laidOut (by kernel_rfl) (of_decide_eq_true (by kernel_rfl)) k1 bel lt1) (trodAll_cons_mk (Below.trod laidOut (by kernel_rfl) (of_decide_eq_true (by kernel_rfl)) k2 bel lt2) trodAll_mk0))), rfl, bel.frame _, fun h => by cases h⟩
theorem k0 : (Rows.sessBytesRow.wf (OpenSpec.ofChange Rows.sessBytesSpec)) = true := by kernel_rfl
theorem k1 : (laidOutB Try.prog) = true := fact_laidOut
theorem k2 : (mapsRowed Try.prog) = true := fact_mapsRowed
theorem k3 : (Try.f6.params.all (Try.prog.readableRec ·)) = true := by kernel_rfl
theorem k4 : (namedTie Try.prog Rows.sessBytesRow.named Rows.sessBytesSpec.vars) = true := by kernel_rfl
theorem k5 : ((Rows.sessBytesRow.stops == [])) = true := by kernel_rfl
theorem k6 : ((Try.prog.stops == [])) = true := fact_stops
theorem k7 : ((Rows.sessBytesRow.knobs == [])) = true := by kernel_rfl
theorem k8 : ((Try.prog.stopKnobs == [])) = true := fact_knobs
theorem k9 : ((Rows.sessBytesRow.inPlace == Try.prog.inPlace 6)) = true := by kernel_rfl
theorem k10 : ((Rows.sessBytesRow.unfollowed == Try.prog.unfollowed 6)) = true := by kernel_rfl
theorem k11 : ((Rows.sessBytesRow.recurses == Try.prog.recurses 6)) = true := by kernel_rfl
theorem k12 : ((Rows.sessBytesRow.named == Try.prog.varsNamed 6)) = true := by kernel_rfl
theorem k13 : ((Rows.sessBytesRow.maps == (Try.f6.params.toList ++ Rows.sessBytesSpec.plain.varTypes Try.prog).any (Try.prog.mapsRec ·))) = true := by kernel_rfl
theorem k14 : ((Rows.sessBytesRow.ifaces == (Try.f6.params.toList ++ Rows.sessBytesSpec.plain.varTypes Try.prog).any (Try.prog.ifacesRec ·))) = true := by kernel_rfl
theorem k15 : ((Rows.sessBytesRow.mapsOut == Try.prog.mapsAmong Try.f6.resultTypes.toList)) = true := by kernel_rfl
theorem k16 : ((Rows.sessBytesRow.loops == (Try.f6.params.toList ++ Rows.sessBytesSpec.plain.varTypes Try.prog).any (Try.prog.loopsFrom ·))) = true := by kernel_rfl
theorem k17 : ((Rows.sessBytesRow.wideKeys == (Try.f6.params.toList ++ Rows.sessBytesSpec.plain.varTypes Try.prog ++ Try.f6.resultTypes.toList).any (Try.prog.wideKeysFrom ·))) = true := by kernel_rfl
theorem k18 : (Rows.sessBytesSpec.vars.all (Try.prog.varReadable ·)) = true := by kernel_rfl
theorem k19 : (Try.f6.resultTypes.all (fun t => Try.prog.readableRec t && decide (t < Try.prog.types.size))) = true := by kernel_rfl
theorem k20 : ((Rows.sessBytesRow.ifacesOut == Try.f6.resultTypes.toList.any (Try.prog.ifacesRec ·))) = true := by kernel_rfl
theorem k21 : ((Rows.sessBytesRow.loopsOut == Try.f6.resultTypes.toList.any (Try.prog.loopsFrom ·))) = true := by kernel_rfl
theorem k22 : ((Rows.sessBytesRow.plainKeys == Try.prog.plainKeys)) = true := fact_plainKeys
theorem k23 : (Rows.sessBytesRow.shortTexts.isNone) = true := by kernel_rfl
theorem k24 : (Try.prog.stopsHeard) = true := fact_heard
theorem k25 : (Try.prog.mayEnter) = true := fact_mayEnter
theorem k26 : ((Rows.sessBytesRow.lifted == Try.prog.liftsFinal)) = true := fact_lifts
theorem k27 : ((Try.prog.make == some Rows.sessBytesRow.make)) = true := fact_make
theorem k28 : ((Rows.sessBytesRow.kinds == (if Rows.sessBytesRow.domain.isEmpty then [] else Try.f6.params.toList.map fun t => match Try.prog.underlying t with | some (.int k) => some k | _ => none))) = true := by kernel_rfl
theorem k29 : ((Rows.sessBytesRow.pinned == Rows.sessBytesRow.pinnedBy)) = true := by kernel_rfl
theorem k30 : ((Rows.sessBytesRow.veiled == (Try.f6.params.toList ++ Rows.sessBytesSpec.plain.varTypes Try.prog ++ Try.f6.resultTypes.toList).any (Try.prog.veiledRec ·))) = true := by kernel_rfl
theorem k31 : (Rows.sessBytesRow.veiledFits Try.prog Try.f6.params.toList (Try.f6.params.toList ++ Rows.sessBytesSpec.plain.varTypes Try.prog ++ Try.f6.resultTypes.toList)) = true := by kernel_rfl
theorem kf : Try.prog.funcNamed Rows.sessBytesRow.func = some 6 := by kernel_rfl
theorem ki : Try.f6.isInstance Try.prog Rows.sessBytesRow.origin Rows.sessBytesRow.targs := of_decide_eq_true (by kernel_rfl)
theorem kw : Try.f6.isWrapper Try.prog Rows.sessBytesRow.wrapper Rows.sessBytesRow.mainSum := by unfold Func.isWrapper; first | (rw [if_pos (by decide +kernel)]; kernel_rfl) | (rw [if_neg (by decide +kernel)]; exact ⟨rfl, rfl⟩)
theorem closed : joinedFacts Try.prog 6 Try.f6 Rows.sessBytesSpec Rows.sessBytesRow = true := joined_of k0 k1 k2 k3 k4 k5 k6 k7 k8 k9 k10 k11 k12 k13 k14 k15 k16 k17 k18 k19 k20 k21 k22 k23 k24 k25 k26 k27 k28 k29 k30 k31
theorem over : Rows.sessBytesRow.holds Try.pinned (OpenSpec.ofChange Rows.sessBytesSpec) :=
  OpenClaim.holds_of_wide 6 Try.f6 rfl rfl rfl rfl rfl rfl rfl ⟨rfl, rfl, rfl, rfl, rfl⟩ rfl rfl rfl rfl rfl kf Try.func6 closed ki kw (fun os started H enc _ => lifted os started H enc)

/-- the statement -/
theorem proved : Rows.SessBytesSaid := over
#print axioms proved
end Go.Proofs.Ytcnehacblodiaaa.lawSessBytes
