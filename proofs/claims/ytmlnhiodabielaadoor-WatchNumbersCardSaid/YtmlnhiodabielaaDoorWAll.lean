/- The statement WatchActs: its walk. No condition. -/
import Derived.Test.YtmlnhiodabielaaDoorWSame
set_option linter.unusedVariables false
set_option linter.unusedSimpArgs false
namespace Go.Proofs.YtmlnhiodabielaaDoor
open Go.RowKit

theorem fire_nil (w : World) (s : List UInt8) (what when_ : Int) : Calls Tryd.prog 16 #[.pointer none, .string (Go.Proofs.YtmlnhiodabielaaDoor.S s), .int .i64 what, .int .i64 when_] w fun e w' => e = .returned (.tuple #[]) ∧ Keeps (fun _ => False) w w' := by
  have HK := hide (((((Keeps.refl (fun _ => False) w).alloc (.cells #[.pointer none] 25)).alloc (.cells #[.string (Go.Proofs.YtmlnhiodabielaaDoor.S s)] 9)).alloc (.cells #[.int .i64 what] 39)).alloc (.cells #[.int .i64 when_] 3))
  have S2 := ((((Sat.start w).box #[.pointer none] 25 rfl).box #[.string (Go.Proofs.YtmlnhiodabielaaDoor.S s)] 9 (b := w.heap.size + 1) (by simp)).box #[.int .i64 what] 39 (b := w.heap.size + 1 + 1) (by simp)).box #[.int .i64 when_] 3 (b := w.heap.size + 1 + 1 + 1) (by simp)
  go_enter Tryd.func16, Tryd.ntmps16
  go_upto_region 1 with fail
  generalize (((w.alloc (.cells #[.pointer none] 25)).alloc (.cells #[.string (Go.Proofs.YtmlnhiodabielaaDoor.S s)] 9)).alloc (.cells #[.int .i64 what] 39)).alloc (.cells #[.int .i64 when_] 3) = w3 at *
  generalize w.heap.size = bb at *
  have c0 := S2.p3.cell 0 _ rfl
  clear S2
  go_wp2_with fail
  (try simp only [Exit.inBlock, Exit.then]); refine bodyPost_ret (results_none rfl _ _ _) rfl ?_
  exact ⟨rfl, HK.out⟩
theorem noted_nil (w : World) (sess no : Int) : Calls Tryd.prog 20 #[.pointer none, .int .i64 sess, .int .i64 no] w fun e w' => e = .returned (.tuple #[]) ∧ Keeps (fun _ => False) w w' := by
  go_enter Tryd.func20, Tryd.ntmps20
  go_wp2_with fail
  go_end0
  exact ⟨rfl, ((Keeps.refl _ w).alloc _).alloc _⟩
theorem drop_nil (w : World) (sess : Int) : Calls Tryd.prog 21 #[.pointer none, .int .i64 sess] w fun e w' => e = .returned (.tuple #[]) ∧ Keeps (fun _ => False) w w' := by
  go_enter Tryd.func21, Tryd.ntmps21
  go_wp2_with fail
  (try simp only [Exit.inBlock, Exit.then]); refine bodyPost_ret (results_none rfl _ _ _) rfl ?_
  exact ⟨rfl, (Keeps.refl _ w).alloc _⟩
theorem add_nil (w : World) (x : WatT) : Calls Tryd.prog 15 #[.pointer none, watV x] w fun e w' => e = .returned (.int .i64 1) ∧ Keeps (fun _ => False) w w' := by
  go_enter Tryd.func15, Tryd.ntmps15
  go_wp2_with fail
  go_ret
  exact ⟨rfl, (Keeps.refl _ w).alloc _⟩
theorem clone_nil {g w : World} {L : List Asn} (S : Sat g w L) : Calls Tryd.prog 22 #[.pointer none] w fun e w' => ∃ t, e = .returned (ptr t) ∧ Sat g w' (bookA t ⟨[], [], []⟩ :: L) := by
  go_enter Tryd.func22, Tryd.ntmps22
  go_wp2_with fail
  refine (new_book S).mono ?_
  rintro e w1 ⟨t, rfl, S1⟩
  go_wp2_with fail
  go_ret
  exact ⟨t, rfl, S1⟩

theorem model_new {g w : World} {L : List Asn} (S : Sat g w L) : Sat g (w.alloc (.cells #[.slice none 0 0, .slice none 0 0, .map none] 32)) (modelA w.heap.size ⟨[], [], []⟩ :: L) := by
  have S1 := ((((S.nilRow 47 4).nosNone).nilRow 41 5).box #[.slice none 0 0, .slice none 0 0, .map none] 32 rfl)
  exact Sat.modelShut (wv := .slice none 0 0) (B := ⟨[], [], []⟩) (Sat.mnotesShut S1)

set_option maxRecDepth 100000 in
set_option maxHeartbeats 8000000 in
theorem acts_walk (W : World) (hG : GL W) (A : Option Addr) (acts : List ActW) (c : Nat) (hs : ActsSrc W A acts) (hl : acts.length ≤ 9223372036854775807) :
    Calls Tryd.prog 7 #[.slice A acts.length c] W fun e w' => e = .returned (.bool true) ∧ Keeps (fun _ => False) W w' := by
  have HSRC : Hid (∀ {w : World} {L : List Asn}, Sat W w L → oldA W ∈ L → ActsSrc w A acts) := fun S hm => hs.of S hm
  have HS0 := hide hs
  have hfew : fewW acts = true → (∀ a ∈ acts, a.path.length ≤ 12) ∧ acts.length ≤ 60 := fun h => by
    simp only [fewW, Bool.and_eq_true, List.all_eq_true, decide_eq_true_eq] at h
    exact h
  have HFEW := hide hfew
  have HF : Hid (∀ w, ActsSrc w A acts → Calls Tryd.prog 10 #[.slice A acts.length c] w fun e w' => e = .returned (.bool (fewW acts)) ∧ Keeps (fun _ => False) w w') := fun w h => few_wacts w A c acts h hl
  generalize fewW acts = fw at *
  clear hs hfew
  go_enter Tryd.func7, Tryd.ntmps7
  go_wp2_with fail
  refine (head_watch (Sat.start W) hG (by simp)).mono ?_
  rintro e w0 ⟨rfl, S0⟩
  go_wp2_with fail
  refine (HF.out _ (HSRC.out S0 (by simp))).mono ?_
  rintro e w1 ⟨rfl, hk1⟩
  have S1 := S0.keep hk1
  clear S0 hk1 HF
  cases fw
  · have HK := hide S1.keep_all
    clear S1
    go_wp2_with fail
    go_ret
    exact ⟨rfl, HK.out⟩
  obtain ⟨hall, h60⟩ := HFEW.out rfl
  have HALL := hide hall
  clear hall HFEW
  go_wp2_with fail
  refine (new_book S1).mono ?_
  rintro e w2 ⟨t, rfl, S2⟩
  have S3 := model_new S2
  go_upto_region 7 with fail
  generalize w2.alloc (.cells #[.slice none 0 0, .slice none 0 0, .map none] 32) = w3 at *
  generalize w2.heap.size = mb at *
  have S4 := S3.p1
  clear S1 S2 S3
  go_wp2_with fail
  go_loopw [18] (fun i wr => ∃ k : Nat, k ≤ acts.length ∧ i = .int .i64 k ∧ ∃ B, InvW B k ∧ Sat W wr (bookA t B :: modelA mb B :: [oldA W])) (fun i _ => acts.length - (RowKit.intOf i).toNat)
  case atStart => exact ⟨0, by omega, rfl, _, InvW.nil, S4⟩
  case round =>
    obtain ⟨k, hk, rfl, B, hinv, S5⟩ := hrel
    have HINV := hide hinv
    have hes := hinv.es
    have hws := hinv.ws
    clear S4 hinv
    by_cases hlt : k < acts.length
    · have hk0 : (0 : Int) ≤ (k : Int) := by omega
      have hk1 : (k : Int) < (acts.length : Int) := by omega
      obtain ⟨ad, x, rfl, hx, d0, d1, d2, d3, d4, d5⟩ := wact_at (HSRC.out S5 (by simp)).1 hlt
      have hmem := List.mem_of_getElem? hx
      have hps := HS0.out.2 x hmem
      have hp12 := HALL.out x hmem
      have HDO : Hid (∀ (w' : World) (L' : List Asn), Sat W w' (bookA t B :: modelA mb B :: L') → oldA W ∈ L' → Calls Tryd.prog 12 #[ptr t, ptr mb, actWV x, .int .i64 ((k : Int) + 1)] w' fun e w2 => e = .returned (.bool true) ∧ Sat W w2 (bookA t (doW B x ((k : Int) + 1)) :: modelA mb (doW B x ((k : Int) + 1)) :: L')) := hide fun w' L' S' h => do_watch S' hG h x hps hp12 HINV.out (by omega) ((k : Int) + 1)
      have hi2 := do_inv HINV.out x ((k : Int) + 1)
      have he2 := hi2.es
      have hw2 := hi2.ws
      have HI2 := hide hi2
      clear hi2 hps hx hmem
      generalize doW B x ((k : Int) + 1) = B2 at *
      obtain ⟨a0, a1, a2, a3, a4, a5, a6, a7⟩ := x
      simp only at d0 d1 d2 d3 d4 d5
      go_upto_region 10 with fail
      have S6 := S5.box #[.int .i64 a0, .int .i64 a1, .int .i64 a2, .slice a3 a5.length a4, .bool a6, .bool a7] 35 rfl
      generalize wr.alloc (.cells #[.int .i64 a0, .int .i64 a1, .int .i64 a2, .slice a3 a5.length a4, .bool a6, .bool a7] 35) = w6 at *
      generalize wr.heap.size = xb at *
      have x0 := S6.cell 0 _ rfl
      have x1 := S6.cell 1 _ rfl
      have x2 := S6.cell 2 _ rfl
      have x3 := S6.cell 3 _ rfl
      have x4 := S6.cell 4 _ rfl
      have x5 := S6.cell 5 _ rfl
      clear S5 d0 d1 d2 d3 d4 d5
      go_wp2_with fail
      refine (HDO.out _ _ S6.b2 (by simp)).mono ?_
      rintro e w7 ⟨rfl, S7⟩
      clear S6 x0 x1 x2 x3 x4 x5
      go_wp2_with fail
      refine (same_watch S7 (by omega) (by omega)).mono ?_
      rintro e w8 ⟨rfl, S8⟩
      have S9 := S8.p2.drop
      clear S7 S8
      go_wp2_with fail
      go_roundw
      case rel => exact ⟨k + 1, by omega, by go_num, B2, HI2.out, S9⟩
      case measure => simp [RowKit.intOf]; omega
    · obtain rfl : k = acts.length := by omega
      have S6 := S5.drop.drop
      clear S5
      go_wp2_with fail
      refine (fire_nil _ [47] 3 1).mono ?_
      rintro e w7 ⟨rfl, hk7⟩
      have S7 := S6.keep hk7
      clear S6 hk7
      go_wp2_with fail
      refine (noted_nil _ 1 1).mono ?_
      rintro e w8 ⟨rfl, hk8⟩
      have S8 := S7.keep hk8
      clear S7 hk8
      go_wp2_with fail
      refine (drop_nil _ 1).mono ?_
      rintro e w9 ⟨rfl, hk9⟩
      have S9 := S8.keep hk9
      clear S8 hk9
      go_wp2_with fail
      refine (add_nil _ ⟨1, [47], false, false⟩).mono ?_
      rintro e wa ⟨rfl, hka⟩
      have Sa := S9.keep hka
      clear S9 hka
      go_wp2_with fail
      refine (watches_nil _).mono ?_
      rintro e wb ⟨rfl, hkb⟩
      have Sb := Sa.keep hkb
      clear Sa hkb
      go_wp2_with fail
      refine (events_nil _ 1).mono ?_
      rintro e wc ⟨rfl, hkc⟩
      have Sc := Sb.keep hkc
      clear Sb hkc
      go_wp2_with fail
      refine (clone_nil Sc).mono ?_
      rintro e wd ⟨t2, rfl, Sd⟩
      clear Sc
      go_wp2_with fail
      refine (watches_book Sd (by simp)).mono ?_
      rintro e we ⟨v, rfl, Se⟩
      obtain ⟨A6, c6, rfl, -⟩ := Se.row.form
      have HK := hide (Se.drop.drop.keep_all)
      clear Sd Se
      go_wp2_with fail
      go_ret
      exact ⟨by simp, HK.out⟩

end Go.Proofs.YtmlnhiodabielaaDoor
