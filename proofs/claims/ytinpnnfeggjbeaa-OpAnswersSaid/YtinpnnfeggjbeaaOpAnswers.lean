/- The law OpAnswers, walked. No condition. -/
import Derived.Test.YtinpnnfeggjbeaaResC
import Derived.Test.YtinpnnfeggjbeaaHeado
set_option linter.unusedVariables false
namespace Go.Proofs.Ytinpnnfeggjbeaa
open Go.RowKit

theorem same_res_eq (w : World) (c d : ResT) (A B : Option Addr) (cap cbp : Nat) (hc : OutSrc w A c.outs) (hd : OutSrc w B d.outs) (hlc : c.outs.length ≤ 9223372036854775807) (hld : d.outs.length ≤ 9223372036854775807) {b : Bool} (hb : decide (c = d) = b) :
    Calls Try.prog 35 #[resV c A cap, resV d B cbp] w fun e w' => e = .returned (.bool b) ∧ Keeps (fun _ => False) w w' := by
  have := same_res w c d A B cap cbp hc hd hlc hld
  rw [hb] at this
  exact this
theorem answer_eq (w : World) (s : List UInt8) (hs : s.length ≤ 9223372036854775807) {c : ResT} {x : Int} (hr : ansF s = (c, x)) :
    Calls Try.prog 34 #[.string (S s)] w fun e w' => ∃ A cap, e = .returned (.tuple #[resV c A cap, .int .i64 x]) ∧ OutSrc w' A c.outs ∧ Keeps (fun _ => False) w w' := by
  have := answer_res w s hs
  rw [hr] at this
  exact this
theorem resB_le (r : ResT) (h : r.outs.length ≤ 4) : (resB r).length ≤ 9223372036854775807 := by
  have := outsB_le r.outs
  unfold resB
  rw [List.length_append, nums_length]
  simp only [List.length_cons, List.length_nil]
  omega

set_option maxRecDepth 100000 in
set_option maxHeartbeats 4000000 in
theorem answers_walk (W : World) (r : ResT) (A : Option Addr) (cap : Nat) (s : List UInt8) (h : OutSrc W A r.outs) (hl : r.outs.length ≤ 9223372036854775807) (hp : ∀ o ∈ r.outs, o.path.length ≤ 9223372036854775807) (hs : s.length ≤ 9223372036854775807) :
    Calls Try.prog 9 #[resV r A cap, .string (S s)] W fun e w' => e = .returned (.bool true) ∧ Keeps (fun k => W.heap.size ≤ k) W w' := by
  have HP := hide hp
  clear hp
  obtain ⟨x, at_, outs, when⟩ := r
  simp only at h hl HP
  go_enter Try.func9, Try.ntmps9
  go_wp2_with fail
  refine (head_op _).mono ?_
  rintro e w0 ⟨rfl, hk0⟩
  have S0 := ((Sat.start W).box _ _ rfl).keep hk0
  clear hk0
  have q0 : w0.cell? ⟨W.heap.size, 0, none⟩ = some (.int .i64 x) := S0.cell 0 _ rfl
  have q1 : w0.cell? ⟨W.heap.size, 1, none⟩ = some (.int .i64 at_) := S0.cell 1 _ rfl
  have q2 : w0.cell? ⟨W.heap.size, 2, none⟩ = some (.slice A outs.length cap) := S0.cell 2 _ rfl
  have q3 : w0.cell? ⟨W.heap.size, 3, none⟩ = some (.int .i64 when) := S0.cell 3 _ rfl
  by_cases hb : outs.length ≤ 4 ∧ s.length ≤ 600 ∧ 0 ≤ x ∧ x ≤ 1024 ∧ 0 ≤ at_ ∧ at_ ≤ 4 ∧ 0 ≤ when ∧ when ≤ 281474976710655
  · obtain ⟨h1, h2, h3, h4, h5, h6, h7, h8⟩ := hb
    go_wp2_with fail
    refine (s_num [x, at_, when, (outs.length : Int)] ((S0.bytesNil).box _ _ rfl) rfl (by simp) (by simp)).mono ?_
    rintro e w1 ⟨v1, rfl, S1⟩
    have q2 : w1.cell? ⟨W.heap.size, 2, none⟩ = some (.slice A outs.length cap) := S1.p1.cell 2 _ rfl
    rw [List.nil_append] at S1
    have HE : Hid (resB ⟨x, at_, outs, when⟩ = nums [x, at_, when, (outs.length : Int)] ++ outs.flatMap outB) := rfl
    generalize hN : nums [x, at_, when, (outs.length : Int)] = N at *
    have hNl : N.length = 24 := by rw [← hN]; rfl
    have HN := hide hN
    clear hN
    go_wp2_with fail
    go_loopw [5, 68] (fun b i wr => ∃ k : Nat, k ≤ outs.length ∧ i = .int .i64 k ∧ (∀ o ∈ outs.take k, outR o) ∧ Sat W wr [bytesA b (N ++ (outs.take k).flatMap outB), cellsA W.heap.size 58 #[.int .i64 x, .int .i64 at_, .slice A outs.length cap, .int .i64 when], oldA W]) (fun _ i _ => outs.length - (intOf i).toNat)
    case atStart => exact ⟨0, by omega, rfl, by simp, by simpa using S1⟩
    case round =>
      obtain ⟨k, hk, rfl, hall, S2⟩ := hrel
      have HA := hide hall
      clear hall
      have hle := outsB_le (outs.take k)
      have hle2 : (outs.take k).length ≤ k := List.length_take_le _ _
      by_cases hlt : k < outs.length
      · obtain ⟨ad, o, rfl, hx, c0, c1⟩ := outs_at (h.keepB (by decide) S2.p2.keeps (fun k hk h => by omega)) hlt
        have HT := hide (flat_take outB outs k o hx)
        have HX := hide hx
        have hpl := HP.out o (List.mem_of_getElem? hx)
        clear hx
        obtain ⟨p, ver⟩ := o
        simp only at c0 c1 hpl
        generalize hLL : (outs.take k).flatMap outB = LL at *
        have HLL := hide hLL
        clear hLL
        have hb : (N ++ LL).length ≤ 70000000 := by rw [List.length_append]; omega
        have ht := txts_le [p]
        have ht : (txts [p]).length ≤ 65537 := ht
        by_cases hR : p.length ≤ 60 ∧ 0 ≤ ver ∧ ver ≤ 281474976710655
        · obtain ⟨r1, r2, r3⟩ := hR
          go_upto_region 11 with fail
          go_region_held3 (fun w' => w'.cell? ⟨wr.heap.size, 0, none⟩ = some (.string (S p)) ∧ w'.cell? ⟨wr.heap.size, 1, none⟩ = some (.int .i64 ver)) (go_keep) (first
            | (go_at_call 32; refine (s_text [p] (g := W) (l := N ++ LL) (by (repeat (first | refine Sat.drew ?_ | refine Sat.drewN ?_ _)); first | exact ((S2.box _ _ rfl).p1).box _ _ (by simp) | exact (((S2.box _ _ rfl).p1.box _ _ rfl).p1).box _ _ (by simp) | exact (((S2.box _ _ rfl).p1.box _ _ (by simp)).box _ _ rfl).b2) rfl (by omega) (by simp)).mono ?_; rintro e w4 ⟨v4, rfl, S4⟩; (try simp only [World.size_alloc] at S4); have q8 : w4.cell? ⟨wr.heap.size, 0, none⟩ = some (.string (S p)) := S4.cell_of (t := 62) (cs := #[.string (S p), .int .i64 ver]) (by simp) 0 _ rfl; have q9 : w4.cell? ⟨wr.heap.size, 1, none⟩ = some (.int .i64 ver) := S4.cell_of (t := 62) (cs := #[.string (S p), .int .i64 ver]) (by simp) 1 _ rfl)
            | (go_at_call 31; refine (s_num [ver] (g := W) (l := N ++ LL ++ txts [p]) (by (repeat (first | refine Sat.drew ?_ | refine Sat.drewN ?_ _)); first | exact S4.box _ _ rfl | exact S4.p1) rfl (by rw [List.length_append]; omega) (by simp)).mono ?_; rintro e w5 ⟨v5, rfl, S5⟩; have q8 : w5.cell? ⟨wr.heap.size, 0, none⟩ = some (.string (S p)) := S5.cell_of (t := 62) (cs := #[.string (S p), .int .i64 ver]) (by simp) 0 _ rfl; have q9 : w5.cell? ⟨wr.heap.size, 1, none⟩ = some (.int .i64 ver) := S5.cell_of (t := 62) (cs := #[.string (S p), .int .i64 ver]) (by simp) 1 _ rfl))
          all_goals
            go_wp2_with fail
            go_roundw
            case rel =>
              refine ⟨k + 1, by omega, by go_num, ?_, ?_⟩
              · obtain ⟨hk', e1⟩ := List.getElem?_eq_some_iff.1 HX.out
                rw [List.take_succ_eq_append_getElem hk', e1]
                intro b hb
                rcases List.mem_append.1 hb with hb | hb
                · exact HA.out b hb
                · simp at hb; subst hb; exact ⟨r1, r2, r3⟩
              · rw [HT.out, ← List.append_assoc]
                simp only [outB, List.append_assoc] at S5 ⊢
                exact S5.b1.drop
            case measure => simp [intOf]; omega
        · go_wp2_with fail
          all_goals
            go_ret
            exact ⟨rfl, (S2.p2).keeps.alloc _⟩
      · obtain rfl : k = outs.length := by omega
        rw [List.take_length] at HA S2
        have HR : Hid (resR ⟨x, at_, outs, when⟩) := ⟨h3, h4, h5, h6, h7, h8, h1, HA.out⟩
        rw [← HE.out] at S2
        have hrl := resB_le ⟨x, at_, outs, when⟩ h1
        have HRL := hide hrl
        have HAN := hide (ansF_of HR.out)
        obtain ⟨B5, n5, cap5, e5, hsrc5⟩ := S2.bytesForm
        subst e5
        clear HE hle hle2 hrl
        have q0 : wr.cell? ⟨W.heap.size, 0, none⟩ = some (.int .i64 x) := S2.p1.cell 0 _ rfl
        have q1 : wr.cell? ⟨W.heap.size, 1, none⟩ = some (.int .i64 at_) := S2.p1.cell 1 _ rfl
        have q2 : wr.cell? ⟨W.heap.size, 2, none⟩ = some (.slice A outs.length cap) := S2.p1.cell 2 _ rfl
        have q3 : wr.cell? ⟨W.heap.size, 3, none⟩ = some (.int .i64 when) := S2.p1.cell 3 _ rfl
        go_wp2_with fail
        refine (bytes_res _ ⟨x, at_, outs, when⟩ A cap (h.keepB (by decide) S2.p2.keeps (fun k hk h => by omega)) (by simp only; omega)).mono ?_
        rintro e w2 ⟨rfl, hk2⟩
        have S3 := S2.keep hk2
        clear hk2
        generalize hRB : resB ⟨x, at_, outs, when⟩ = RB at *
        have HRB := hide hRB
        clear hRB
        go_wp2_with fail
        refine (answer_eq _ RB HRL.out HAN.out).mono ?_
        rintro e w3 ⟨A2, cap2, rfl, hq, hk3⟩
        have S4 := S3.keep hk3
        have HQ := hide hq
        clear hk3 hq
        obtain ⟨B6, n6, cap6, e6, hsrc6⟩ := S4.bytesForm
        injection e6 with e6 e7 e8
        subst e6 e7 e8
        have q0 : w3.cell? ⟨W.heap.size, 0, none⟩ = some (.int .i64 x) := S4.p1.cell 0 _ rfl
        have q1 : w3.cell? ⟨W.heap.size, 1, none⟩ = some (.int .i64 at_) := S4.p1.cell 1 _ rfl
        have q2 : w3.cell? ⟨W.heap.size, 2, none⟩ = some (.slice A outs.length cap) := S4.p1.cell 2 _ rfl
        have q3 : w3.cell? ⟨W.heap.size, 3, none⟩ = some (.int .i64 when) := S4.p1.cell 3 _ rfl
        have ltW : W.heap.size < w3.heap.size := World.block_lt_of_cell? w3 _ q0
        have S5 := S4.box #[.int .i64 x, .int .i64 at_, .slice A2 outs.length cap2, .int .i64 when] 58 rfl
        have hsrc7 := hsrc6.keep ((Keeps.refl (fun _ => False) w3).alloc (.cells #[.int .i64 x, .int .i64 at_, .slice A2 outs.length cap2, .int .i64 when] 58)) (fun _ _ h => h)
        have hconv := run_ofBytes (P := Try.prog) (dst := 9) Try.underlying59 Try.underlying5 Try.underlying9 hsrc7 cap5
        have HH := hide ((h.keepB (by decide) (S5.p3).keeps (fun k hk h => by omega)))
        clear hsrc5 hsrc6 hsrc7
        go_wp2_with (go_at_call 35; refine (same_res_eq _ ⟨x, at_, outs, when⟩ ⟨x, at_, outs, when⟩ A2 A cap2 cap (HQ.out.keep ((Keeps.refl (fun _ => False) _).alloc _) (fun _ _ h => h)) HH.out (by simp only; omega) (by simp only; omega) (decide_eq_true rfl)).mono ?_; rintro e w6 ⟨rfl, hk6⟩; have S6 := S5.keep hk6)
        clear hconv q0 q1 q2 q3
        have hlen := ansF_length s
        by_cases hr : (ansF s).2 = 0
        · have hby := ansF_bytes hr
          have hE : ansF s = ((ansF s).1, 0) := Prod.ext rfl hr
          obtain ⟨c, hc0⟩ : ∃ c, c = (ansF s).1 := ⟨_, rfl⟩
          rw [← hc0] at hby hE hlen
          obtain ⟨x9, at9, outs9, when9⟩ := c
          have HB := hide hby
          have HE := hide hE
          clear hby hE hr hc0
          simp only at hlen
          refine (answer_eq _ s hs HE.out).mono ?_
          rintro e w7 ⟨A9, cap9, rfl, hsrc, hk⟩
          have S7 := S6.keep hk
          have HS := hide hsrc
          clear hk hsrc
          go_wp2_with fail
          refine (bytes_res _ ⟨x9, at9, outs9, when9⟩ A9 cap9 (HS.out.keep ((Keeps.refl (fun _ => False) _).alloc _) (fun _ _ h => h)) (by simp only; omega)).mono ?_
          rw [HB.out]
          rintro e w8 ⟨rfl, hk⟩
          have S8 := (S7.keep ((Keeps.refl (fun _ => False) _).alloc _)).keep hk
          clear hk
          go_wp2_with fail
          go_ret
          exact ⟨rfl, S8.p3.keeps⟩
        · have hE := ansF_none hr
          have HE := hide hE
          clear hE hr
          refine (answer_eq _ s hs HE.out).mono ?_
          rintro e w7 ⟨A9, cap9, rfl, hsrc, hk⟩
          have S7 := S6.keep hk
          have HS := hide hsrc
          clear hk hsrc
          go_wp2_with fail
          refine (same_res_eq _ noRes noRes _ _ _ _ (Src.nil _ _ _) (Src.nil _ _ _) (by decide) (by decide) (decide_eq_true rfl)).mono ?_
          rintro e w8 ⟨rfl, hk⟩
          have S8 := (S7.keep ((Keeps.refl (fun _ => False) _).alloc _)).keep hk
          clear hk
          go_wp2_with fail
          go_ret
          exact ⟨rfl, S8.p3.keeps⟩
  · go_wp2_with fail
    all_goals
      first
        | (go_ret
           exact ⟨rfl, S0.p1.keeps⟩)
        | (exfalso; omega)

end Go.Proofs.Ytinpnnfeggjbeaa
