/- The law StateEnds, walked. No condition. -/
import Derived.Test.YtbfogieeiobpdaaGreatDoorStW
set_option linter.unusedVariables false
set_option linter.unusedSimpArgs false
namespace Go.Proofs.YtbfogieeiobpdaaGreatDoor
open Go.RowKit

def enc (k : Nat) : UInt8 := UInt8.ofNat (97 + k)
def enO (i : Nat) (o : Bool) : OpT := ⟨1, [47, 110, enc i], [], -1, false, o⟩
def enC (i : Nat) (o : Bool) : CmdT := madeF 1 (1 + (i : Int)) [enO i o]
def enW : CmdT := ⟨4, 2, 1, 0, [], [47], true, false⟩
def enX : CmdT := ⟨2, 1, 100, 0, [], [], false, false⟩
def enZ : CmdT := ⟨3, 1, 200, 0, [], [], false, false⟩
def enS (own : List Bool) : Nat → StT
  | 0 => openS 2
  | k + 1 => (applyC (enS own k) (enC k (own.getD k false))).2
def enK (own : List Bool) : Nat → StT
  | 0 => openK 2
  | k + 1 => (applyK (enK own k) (enC k (own.getD k false))).2
theorem en_K (own : List Bool) (k : Nat) : enS own k = enK own k := by
  induction k with
  | zero => exact open_K 2
  | succ k ih => unfold enS enK; rw [apply_K, ih]
def enT (own : List Bool) : StT := (applyC (enS own own.length) enW).2
def enU (own : List Bool) : StT := (applyC (enT own) enX).2
def enV (own : List Bool) : StT := (applyC (enU own) enZ).2
def enTK (own : List Bool) : StT := (applyK (enK own own.length) enW).2
def enUK (own : List Bool) : StT := (applyK (enTK own) enX).2
def enVK (own : List Bool) : StT := (applyK (enUK own) enZ).2
theorem enT_K (own : List Bool) : enT own = enTK own := by unfold enT enTK; rw [apply_K, en_K]
theorem enU_K (own : List Bool) : enU own = enUK own := by unfold enU enUK; rw [apply_K, enT_K]
theorem enV_K (own : List Bool) : enV own = enVK own := by unfold enV enVK; rw [apply_K, enU_K]
def enB (own : List Bool) : Bool :=
  (List.range own.length).all (fun k => decide ((applyK (enK own k) (enC k (own.getD k false))).1.e = 0)) &&
  decide ((applyK (enTK own) enX).1.e = 0) &&
  (List.range own.length).all (fun i => decide (decide ((getF (enUK own).tree [47, 110, enc i]).2 = 0) = !own.getD i false)) &&
  decide ((1 : Int) ∉ keys (enUK own).tab) && decide ((2 : Int) ∈ keys (enUK own).tab) &&
  decide (((enUK own).book.es.filter fun x => decide (x.session = 2)).length = (own.filter id).length) &&
  decide ((applyK (enUK own) enZ).1.e = 17) && decide (ownK (enVK own).tree 1 = [])
def allB : Nat → List (List Bool)
  | 0 => [[]]
  | n + 1 => [] :: (allB n).flatMap fun l => [true :: l, false :: l]
theorem mem_allB (n : Nat) : ∀ l : List Bool, l.length ≤ n → l ∈ allB n := by
  induction n with
  | zero => intro l h; obtain rfl : l = [] := List.eq_nil_of_length_eq_zero (by omega); simp [allB]
  | succ n ih =>
    intro l h
    cases l with
    | nil => simp [allB]
    | cons a r =>
      have := ih r (by simp at h; omega)
      refine List.mem_cons_of_mem _ (List.mem_flatMap.2 ⟨r, this, ?_⟩)
      cases a <;> simp
theorem en_all : (allB 5).all enB = true := by kernel_rfl
structure EnF (own : List Bool) : Prop where
  made : ∀ k, k < own.length → (applyC (enS own k) (enC k (own.getD k false))).1.e = 0
  shut : (applyC (enT own) enX).1.e = 0
  node : ∀ i, i < own.length → decide ((getF (enU own).tree [47, 110, enc i]).2 = 0) = !own.getD i false
  one : (1 : Int) ∉ keys (enU own).tab
  two : (2 : Int) ∈ keys (enU own).tab
  evs : ((enU own).book.es.filter fun x => decide (x.session = 2)).length = (own.filter id).length
  late : (applyC (enU own) enZ).1.e = 17
  none_ : ownedF (enV own).tree 1 = []
theorem en_facts (own : List Bool) (h : own.length ≤ 5) : EnF own := by
  have h1 := List.all_eq_true.1 en_all own (mem_allB 5 own h)
  simp only [enB, Bool.and_eq_true, List.all_eq_true, List.mem_range, decide_eq_true_eq, ← apply_K, ← en_K, ← enT_K, ← enU_K, ← enV_K, ← own_K] at h1
  obtain ⟨⟨⟨⟨⟨⟨⟨a, b⟩, c⟩, d⟩, e⟩, f⟩, g⟩, i⟩ := h1
  exact ⟨a, b, c, d, e, f, g, i⟩
theorem run_es2 {s : StT} {k m : Nat} (h : RunS s k m) : s.book.es.length ≤ 40 * k := by
  obtain ⟨M, n, hi, hn⟩ := h.it
  have := hi.book.es
  omega
theorem enC_R (i : Nat) (o : Bool) (h : i ≤ 100) : cmdR (enC i o) = true := made_R 1 (1 + (i : Int)) (enO i o) (by omega) (by omega) (by simp [opR, enO])
theorem en_run (own : List Bool) (k : Nat) (hk : k ≤ 10) : RunS (enS own k) (1 + 2 * k) (2 + k) := by
  induction k with
  | zero => exact openS_run 2 (by omega)
  | succ k ih =>
    have := (ih (by omega)).step (enC_R k (own.getD k false) (by omega)) (by omega) (by omega)
    exact this
theorem enT_run (own : List Bool) (h : own.length ≤ 5) : RunS (enT own) (1 + 2 * own.length) (3 + own.length) := by
  have := (en_run own own.length (by omega)).step (c := enW) (by decide) (by omega) (by omega)
  obtain ⟨⟨M, n, h1, h2⟩, h3⟩ := this
  have h0 : enW.ops.length = 0 := rfl
  exact ⟨⟨M, n, h1, by omega⟩, h3.trans (by omega)⟩
theorem enU_run (own : List Bool) (h : own.length ≤ 5) : RunS (enU own) (1 + 2 * own.length) (4 + own.length) := by
  have := (enT_run own h).step (c := enX) (by decide) (by omega) (by omega)
  obtain ⟨⟨M, n, h1, h2⟩, h3⟩ := this
  have h0 : enX.ops.length = 0 := rfl
  exact ⟨⟨M, n, h1, by omega⟩, h3.trans (by omega)⟩
theorem enV_run (own : List Bool) (h : own.length ≤ 5) : RunS (enV own) (1 + 2 * own.length) (5 + own.length) := by
  have := (enU_run own h).step (c := enZ) (by decide) (by omega) (by omega)
  obtain ⟨⟨M, n, h1, h2⟩, h3⟩ := this
  have h0 : enZ.ops.length = 0 := rfl
  exact ⟨⟨M, n, h1, by omega⟩, h3.trans (by omega)⟩

set_option maxRecDepth 100000 in
set_option maxHeartbeats 16000000 in
theorem ends_walk (W : World) (hG : GL W) (A0 : Option Addr) (own : List Bool) (c0 : Nat) (hs : Src W 1 A0 own.length (own.map Value.bool)) (hl : own.length ≤ 9223372036854775807) :
    Calls Tryz.prog 7 #[.slice A0 own.length c0] W fun e w' => e = .returned (.bool true) ∧ Keeps (fun _ => False) W w' := by
  have HGL : Hid (GL W) := hide hG
  have HAT : Hid (∀ (wr : World) (k : Nat), Keeps (fun _ => False) W wr → k < own.length → ∃ ad, A0 = some ad ∧ wr.cell? (ad.add k) = some (.bool (own.getD k false))) := hide fun wr k hk hlt => by
    obtain ⟨ad, e, hc⟩ := (hs.keep hk (fun _ _ h => h)).2 (by omega)
    refine ⟨ad, e, hc k _ ?_⟩
    simp [List.getD, List.getElem?_eq_getElem hlt]
  clear hs
  go_enter Tryz.func7, Tryz.ntmps7
  go_wp2_with fail
  refine (head_state (Sat.start W) hG (by simp)).mono ?_
  rintro e w0 ⟨rfl, S0⟩
  clear hG
  by_cases h5 : 5 < own.length
  · have h5i : (5 : Int) < (own.length : Int) := by omega
    have HK := hide S0.keep_all
    clear S0 HAT
    go_wp2_with fail
    go_ret
    exact ⟨rfl, HK.out⟩
  have h5i : ¬ (5 : Int) < (own.length : Int) := by omega
  have HEN := hide (en_facts own (by omega))
  go_wp2_with fail
  refine (opened_state S0 HGL.out (by simp) 2 (by omega)).mono ?_
  rintro e w1 ⟨b, rfl, S1⟩
  clear S0
  go_wp2_with fail
  go_loopw [22] (fun i wr => ∃ k : Nat, k ≤ own.length ∧ i = .int .i64 (k : Int) ∧ Sat W wr (stateA b (enS own k) :: [oldA W])) (fun i _ => own.length - (RowKit.intOf i).toNat)
  case atStart => exact ⟨0, by omega, rfl, S1⟩
  case round =>
    obtain ⟨k, hk, rfl, S2⟩ := hrel
    clear S1
    by_cases hlt : k < own.length
    · have hk0 : (0 : Int) ≤ (k : Int) := by omega
      have hk1 : (k : Int) < (own.length : Int) := by omega
      obtain ⟨ad, rfl, d0⟩ := HAT.out wr k S2.p1.keep_all hlt
      have hrun := en_run own k (by omega)
      have hmade := HEN.out.made k hlt
      have HNX : Hid (enS own (k + 1) = (applyC (enS own k) (enC k (own.getD k false))).2) := hide rfl
      generalize own.getD k false = o at *
      have hcr := enC_R k o (by omega)
      have HTX : Hid (∀ (w' : World) (L' : List Asn) (ob : Nat), Sat W w' (cellsA ob 61 #[.int .i64 1, .string (S [47, 110, enc k]), .string (S []), .int .i64 (-1), .bool false, .bool o] :: L') → Calls Tryz.prog 24 #[.agg #[.int .i64 3, .int .i64 1, .int .i64 (1 + (k : Int)), .int .i64 0, .slice (some ⟨ob, 0, none⟩) 1 1, .string ⟨#[]⟩, .bool false, .bool false]] w' fun e w2 => e = .returned (.string (S (bytesF (enC k o)).1)) ∧ Sat W w2 (cellsA ob 61 #[.int .i64 1, .string (S [47, 110, enc k]), .string (S []), .int .i64 (-1), .bool false, .bool o] :: L')) := hide fun w' L' ob S' => s_text1 (enO k o) S' rfl 1 (1 + (k : Int)) (by simp [enO]) (by simp [enO])
      have HSY : Hid (∀ (w' : World) (L' : List Asn), Sat W w' (stateA b (enS own k) :: L') → oldA W ∈ L' → Calls Tryz.prog 23 #[ptr b, .string (S (bytesF (enC k o)).1)] w' fun e w2 => ∃ A cap, e = .returned (resV (applyC (enS own k) (enC k o)).1 A cap) ∧ Sat W w2 (rowA 134 2 (.slice A (applyC (enS own k) (enC k o)).1.outs.length cap) (applyC (enS own k) (enC k o)).1.outs.length ((applyC (enS own k) (enC k o)).1.outs.flatMap outC) :: stateA b (applyC (enS own k) (enC k o)).2 :: L')) := hide fun w' L' S' h => s_say S' HGL.out h hrun (by omega) (by omega) hcr (by simp [enC, madeF])
      generalize (bytesF (enC k o)).1 = TX at *
      generalize applyC (enS own k) (enC k o) = AX at *
      obtain ⟨⟨x1, x2, x3, x4⟩, x5⟩ := AX
      simp only at hmade HNX HSY
      subst hmade
      generalize enS own k = s1 at *
      have hcN : ((enc k).toNat : Int) = 97 + (k : Int) := by
        unfold enc
        rw [UInt8.toNat_ofNat_of_lt' (by show 97 + k < 256; omega)]
        omega
      have hu1 : IntKind.u8.wrap (k : Int) = (k : Int) := by simp [IntKind.wrap, IntKind.signed, IntKind.bits]; omega
      have hu2 : IntKind.u8.wrap (97 + (k : Int)) = 97 + (k : Int) := by simp [IntKind.wrap, IntKind.signed, IntKind.bits]; omega
      have hbs : Bs [enc k] = [.int .u8 (97 + (k : Int))] := by simp only [Bs, List.map_cons, List.map_nil, B, hcN]
      have hsrcb : Src (wr.alloc (.cells #[.int .u8 (97 + (k : Int))] 5)) 1 (some ⟨wr.heap.size, 0, none⟩) 1 (Bs [enc k]) := by rw [hbs]; exact Src.block (heap_alloc_new wr _) 1 1 rfl
      have hconv := run_ofBytes (P := Tryz.prog) (dst := 9) Tryz.underlying37 Tryz.underlying5 Tryz.underlying9 hsrcb 1
      have hcat : (⟨#[47, 110]⟩ : ByteArray) ++ S [enc k] = S [47, 110, enc k] := by
        exact S_append [47, 110] [enc k]
      clear hcN hbs hsrcb
      clear hrun hcr
      have S3 := (S2.box #[.int .u8 (97 + (k : Int))] 5 rfl).box #[.int .i64 1, .string (S [47, 110, enc k]), .string (S []), .int .i64 (-1), .bool false, .bool o] 61 (b := wr.heap.size + 1) (by simp)
      have hw1 : IntKind.i64.wrap (1 + (k : Int)) = 1 + (k : Int) := IntWalk.i64_in _ ⟨by omega, by omega⟩
      go_wp2_with fail
      refine (s_made1 S3 1 (1 + (k : Int)) _ _).mono ?_
      rintro e w4 ⟨rfl, S4⟩
      generalize wr.heap.size + 1 = ob at *
      clear S2 S3 hconv hcat hu1 hu2 d0
      go_wp2_with fail
      refine (HTX.out _ _ ob S4).mono ?_
      rintro e w5 ⟨rfl, S5⟩
      have S6 := S5.drop.drop
      clear S4 S5 HTX
      go_wp2_with fail
      refine (HSY.out _ _ S6 (by simp)).mono ?_
      rintro e w6 ⟨A, cap, rfl, S7⟩
      have S8 := S7.box #[.int .i64 0, .int .i64 x2, .slice A x3.length cap, .int .i64 x4] 51 rfl
      go_upto_region 10 with fail
      generalize w6.alloc (.cells #[.int .i64 0, .int .i64 x2, .slice A x3.length cap, .int .i64 x4] 51) = w8 at *
      generalize w6.heap.size = rb at *
      have z0 := S8.cell 0 _ rfl
      have S9 := S8.drop.drop
      clear S6 S7 S8 HSY
      go_wp2_with fail
      go_roundw
      case rel => exact ⟨k + 1, by omega, by go_num, by rw [HNX.out]; exact S9⟩
      case measure => simp [RowKit.intOf]; omega
    · obtain rfl : k = own.length := by omega
      have hrun := en_run own own.length (by omega)
      have hrunT := enT_run own (by omega)
      have hrunU := enU_run own (by omega)
      have hrunV := enV_run own (by omega)
      have hes := run_es2 hrunU
      have hshut := HEN.out.shut
      have hlate := HEN.out.late
      have HT4 : Hid (∀ (w' : World) (L' : List Asn), Sat W w' L' → Calls Tryz.prog 24 #[.agg #[.int .i64 4, .int .i64 2, .int .i64 1, .int .i64 0, .slice none 0 0, .string ⟨#[47]⟩, .bool true, .bool false]] w' fun e w2 => e = .returned (.string (S (bytesF enW).1)) ∧ Sat W w2 L') := hide fun w' L' S' => s_textc S' enW none 0 (Src.nil _ _ _) ⟨by decide, by decide, by intro o h; cases h⟩
      have HS4 : Hid (∀ (w' : World) (L' : List Asn), Sat W w' (stateA b (enS own own.length) :: L') → oldA W ∈ L' → Calls Tryz.prog 23 #[ptr b, .string (S (bytesF enW).1)] w' fun e w2 => ∃ (x1 x2 x4 : Int) (x3 : List OutT) (A : Option Addr) (cap : Nat), e = .returned (.agg #[.int .i64 x1, .int .i64 x2, .slice A x3.length cap, .int .i64 x4]) ∧ Sat W w2 (rowA 134 2 (.slice A x3.length cap) x3.length (x3.flatMap outC) :: stateA b (enT own) :: L')) := hide fun w' L' S' h => s_say3 S' HGL.out h hrun (by omega) (by omega) (by decide) (by decide)
      generalize (bytesF enW).1 = TX4 at *
      go_wp2_with fail
      refine (HT4.out _ _ S2).mono ?_
      rintro e wra ⟨rfl, S2a⟩
      clear S2 HT4
      go_wp2_with fail
      refine (HS4.out _ _ S2a (by simp)).mono ?_
      rintro e w3 ⟨x1, x2, x4, x3, A, cap, rfl, S2b⟩
      have S3 := S2b.drop
      clear S2a S2b HS4
      have HT5 : Hid (∀ (w' : World) (L' : List Asn), Sat W w' L' → Calls Tryz.prog 24 #[.agg #[.int .i64 2, .int .i64 1, .int .i64 100, .int .i64 0, .slice none 0 0, .string ⟨#[]⟩, .bool false, .bool false]] w' fun e w2 => e = .returned (.string (S (bytesF enX).1)) ∧ Sat W w2 L') := hide fun w' L' S' => s_textc S' enX none 0 (Src.nil _ _ _) ⟨by decide, by decide, by intro o h; cases h⟩
      have HS5 : Hid (∀ (w' : World) (L' : List Asn), Sat W w' (stateA b (enT own) :: L') → oldA W ∈ L' → Calls Tryz.prog 23 #[ptr b, .string (S (bytesF enX).1)] w' fun e w2 => ∃ A cap, e = .returned (resV (applyC (enT own) enX).1 A cap) ∧ Sat W w2 (rowA 134 2 (.slice A (applyC (enT own) enX).1.outs.length cap) (applyC (enT own) enX).1.outs.length ((applyC (enT own) enX).1.outs.flatMap outC) :: stateA b (applyC (enT own) enX).2 :: L')) := hide fun w' L' S' h => s_say S' HGL.out h hrunT (by omega) (by omega) (by decide) (by decide)
      generalize (bytesF enX).1 = TX5 at *
      have HNU : Hid ((applyC (enT own) enX).2 = enU own) := hide rfl
      generalize applyC (enT own) enX = AX at *
      obtain ⟨⟨x1, x2, x3, x4⟩, x5⟩ := AX
      simp only at hshut HNU HS5
      subst hshut
      obtain rfl := HNU.out
      go_wp2_with fail
      refine (HT5.out _ _ S3).mono ?_
      rintro e w4 ⟨rfl, S4⟩
      clear S3 HT5
      go_wp2_with fail
      refine (HS5.out _ _ S4 (by simp)).mono ?_
      rintro e w5 ⟨A, cap, rfl, S5⟩
      have S6 := S5.box #[.int .i64 0, .int .i64 x2, .slice A x3.length cap, .int .i64 x4] 51 rfl
      go_upto_region 15 with fail
      generalize w5.alloc (.cells #[.int .i64 0, .int .i64 x2, .slice A x3.length cap, .int .i64 x4] 51) = w6 at *
      generalize w5.heap.size = rb at *
      have z0 := S6.cell 0 _ rfl
      have S7 := S6.drop.drop
      clear S4 S5 S6 HS5 hrun hrunT
      go_wp2_with fail
      clear z0
      go_loopw [8, 59] (fun v i wr => ∃ k : Nat, k ≤ own.length ∧ i = .int .i64 (k : Int) ∧ v = .int .i64 (((own.take k).filter id).length : Int) ∧ Sat W wr (stateA b (enU own) :: [oldA W])) (fun _ i _ => own.length - (RowKit.intOf i).toNat)
      case atStart => exact ⟨0, by omega, rfl, by simp, S7⟩
      case round =>
        obtain ⟨k, hk, rfl, rfl, S8⟩ := hrel
        clear S7
        by_cases hlt2 : k < own.length
        · have hk0 : (0 : Int) ≤ (k : Int) := by omega
          have hk1 : (k : Int) < (own.length : Int) := by omega
          obtain ⟨ad, rfl, d0⟩ := HAT.out wr k S8.p1.keep_all hlt2
          have hnode := HEN.out.node k hlt2
          have HCNT : Hid ((((own.take (k + 1)).filter id).length : Int) = ((own.take k).filter id).length + if own.getD k false = true then 1 else 0) := hide (by
            rw [List.take_succ_eq_append_getElem hlt2]
            simp only [List.getD, List.getElem?_eq_getElem hlt2, Option.getD_some, List.filter_append, List.length_append]
            cases own[k] <;> simp)
          have hcl : ((own.take k).filter id).length ≤ 5 := by
            have h1 := List.length_filter_le id (own.take k)
            have h2 := List.length_take_le k own
            omega
          generalize own.getD k false = o at *
          generalize ((own.take k).filter id).length = cn at *
          have hcN : ((enc k).toNat : Int) = 97 + (k : Int) := by
            unfold enc
            rw [UInt8.toNat_ofNat_of_lt' (by show 97 + k < 256; omega)]
            omega
          have hu1 : IntKind.u8.wrap (k : Int) = (k : Int) := by simp [IntKind.wrap, IntKind.signed, IntKind.bits]; omega
          have hu2 : IntKind.u8.wrap (97 + (k : Int)) = 97 + (k : Int) := by simp [IntKind.wrap, IntKind.signed, IntKind.bits]; omega
          have hbs : Bs [enc k] = [.int .u8 (97 + (k : Int))] := by simp only [Bs, List.map_cons, List.map_nil, B, hcN]
          have hcat : (⟨#[47, 110]⟩ : ByteArray) ++ S [enc k] = S [47, 110, enc k] := by
            exact S_append [47, 110] [enc k]
          clear hcN
          obtain ⟨t, ts, bk, S9⟩ := S8.stateOpen
          have HGT : Hid (∀ (w' : World) (L' : List Asn), Sat W w' (treeA t (enU own).tree :: L') → oldA W ∈ L' → Calls Tryz.prog 27 #[ptr t, .string (S [47, 110, enc k])] w' fun e w2 => e = .returned (.tuple #[nodV (getF (enU own).tree [47, 110, enc k]).1, .int .i64 (getF (enU own).tree [47, 110, enc k]).2]) ∧ Sat W w2 (treeA t (enU own).tree :: L')) := hide fun w' L' S' h => get_tree S' (HGL.out.at S' (by simp [h])) [47, 110, enc k] (by simp)
          have HX : Hid (∀ (w' : World) (L' : List Asn), Sat W w' L' → cellsA b 70 #[ptr t, ptr ts, ptr bk, .int .i64 (enU own).at_] ∈ L' → w'.cell? ⟨b, 0, none⟩ = some (ptr t)) := hide fun w' L' S' h => S'.cell_of h 0 _ rfl
          generalize getF (enU own).tree [47, 110, enc k] = G at *
          obtain ⟨⟨n1, n2, n3, n4, n5, n6, n7⟩, ge⟩ := G
          simp only at hnode HGT
          have HND := hide hnode
          clear hnode
          go_upto_region 21 with fail
          refine wp_region_held_drew (S := (fun w' => w'.cell? ⟨b, 0, none⟩ = some (ptr t))) (by kernel_rfl) ?_ (fun hHeld => ?_)
          · exact HX.out _ _ S9.drew (by simp)
          refine wpAnyH_take (i := 0) (oi := _) (v := ?_) rfl (by kernel_rfl) (by kernel_rfl) (by kernel_rfl) (fun _ _ _ h => h) (Or.inl ⟨by rfl, ?_⟩) hHeld ?_
          rotate_left
          · intro w' hSw
            (try dsimp only at hSw)
            go_simp
            try with_reducible rfl
          try simp only [Act.put, List.setIfInBounds_toArray, List.set_cons_zero, List.set_cons_succ, List.getElem_toArray, List.getElem_cons_zero, List.getElem_cons_succ]
          refine wpAnyH_take (i := 1) (oi := _) (v := ?_) rfl (by kernel_rfl) (by kernel_rfl) (by kernel_rfl) (fun _ _ _ h => h) (Or.inl ⟨by rfl, ?_⟩) hHeld ?_
          rotate_left
          · intro w' hSw
            (try dsimp only at hSw)
            go_simp
            try with_reducible rfl
          try simp only [Act.put, List.setIfInBounds_toArray, List.set_cons_zero, List.set_cons_succ, List.getElem_toArray, List.getElem_cons_zero, List.getElem_cons_succ]
          refine wpAnyH_take (i := 2) (oi := _) (v := ?_) rfl (by kernel_rfl) (by kernel_rfl) (by kernel_rfl) (fun _ _ _ h => h) (Or.inl ⟨by rfl, ?_⟩) hHeld ?_
          rotate_left
          · intro w' hSw
            (try dsimp only at hSw)
            go_simp
            try with_reducible rfl
          try simp only [Act.put, List.setIfInBounds_toArray, List.set_cons_zero, List.set_cons_succ, List.getElem_toArray, List.getElem_cons_zero, List.getElem_cons_succ]
          refine wpAnyH_take (i := 3) (oi := _) (v := ?_) rfl (by kernel_rfl) (by kernel_rfl) (by kernel_rfl) (fun _ _ _ h => h) (Or.inl ⟨by rfl, ?_⟩) hHeld ?_
          rotate_left
          · intro w' hSw
            (try dsimp only at hSw)
            go_simp
            try with_reducible rfl
          try simp only [Act.put, List.setIfInBounds_toArray, List.set_cons_zero, List.set_cons_succ, List.getElem_toArray, List.getElem_cons_zero, List.getElem_cons_succ]
          refine wpAnyH_take (i := 4) (oi := _) (v := ?_) rfl (by kernel_rfl) (by kernel_rfl) (by kernel_rfl) (fun _ _ _ h => h) (Or.inl ⟨by rfl, ?_⟩) hHeld ?_
          rotate_left
          · intro w' hSw
            (try dsimp only at hSw)
            go_simp
            try with_reducible rfl
          try simp only [Act.put, List.setIfInBounds_toArray, List.set_cons_zero, List.set_cons_succ, List.getElem_toArray, List.getElem_cons_zero, List.getElem_cons_succ]
          refine wpAnyH_take (i := 5) (oi := _) (v := ?_) rfl (by kernel_rfl) (by kernel_rfl) (by kernel_rfl) (fun _ _ _ h => h) (Or.inl ⟨by rfl, ?_⟩) hHeld ?_
          rotate_left
          · intro w' hSw
            (try dsimp only at hSw)
            go_simp
            try with_reducible rfl
          try simp only [Act.put, List.setIfInBounds_toArray, List.set_cons_zero, List.set_cons_succ, List.getElem_toArray, List.getElem_cons_zero, List.getElem_cons_succ]
          refine wpAnyH_take (i := 6) (oi := _) (v := ?_) rfl (by kernel_rfl) (by kernel_rfl) (by kernel_rfl) (fun _ _ _ h => h) (Or.inl ⟨by rfl, ?_⟩) hHeld ?_
          rotate_left
          · intro w' hSw
            (try dsimp only at hSw)
            go_simp
            try with_reducible rfl
          try simp only [Act.put, List.setIfInBounds_toArray, List.set_cons_zero, List.set_cons_succ, List.getElem_toArray, List.getElem_cons_zero, List.getElem_cons_succ]
          refine wpAnyH_ready (rs := [7, 14]) (by kernel_rfl) (by simp) ?_
          refine AllReadyH.cons rfl (fun K hK => ?_) ?_
          · go_simp
            have SQ1 := (S9.box #[.int .u8 (97 + (k : Int))] 5 rfl).drew
            generalize (wr.alloc (.cells #[.int .u8 (97 + (k : Int))] 5)).drew = wq1 at *
            generalize wr.heap.size = bq1 at *
            refine hK.out _ _ ?_ (fun hHeld => ?_)
            · exact HX.out _ _ SQ1 (by simp [bringA])
            clear hK K
            try simp only [Act.put, List.setIfInBounds_toArray, List.set_cons_zero, List.set_cons_succ, List.getElem_toArray, List.getElem_cons_zero, List.getElem_cons_succ]
            refine wpAnyH_ready (rs := [8, 14]) (by kernel_rfl) (by simp) ?_
            refine AllReadyH.cons rfl (fun K hK => ?_) ?_
            · have hsrcb : Src wq1 1 (some ⟨bq1, 0, none⟩) 1 (Bs [enc k]) := by rw [hbs]; exact Src.block (Sat.cells_get (SQ1.bring 0)) 1 1 rfl
              have hconv := run_ofBytes (P := Tryz.prog) (dst := 9) Tryz.underlying37 Tryz.underlying5 Tryz.underlying9 hsrcb 1
              go_simp
              refine hK.out _ _ ?_ (fun hHeld => ?_)
              · exact HX.out _ _ SQ1 (by simp [bringA])
              clear hK K
              try simp only [Act.put, List.setIfInBounds_toArray, List.set_cons_zero, List.set_cons_succ, List.getElem_toArray, List.getElem_cons_zero, List.getElem_cons_succ]
              refine wpAnyH_take (i := 9) (oi := _) (v := ?_) rfl (by kernel_rfl) (by kernel_rfl) (by kernel_rfl) (fun _ _ _ h => h) (Or.inl ⟨by rfl, ?_⟩) hHeld ?_
              rotate_left
              · intro w' hSw
                (try dsimp only at hSw)
                go_simp
                try with_reducible rfl
              try simp only [Act.put, List.setIfInBounds_toArray, List.set_cons_zero, List.set_cons_succ, List.getElem_toArray, List.getElem_cons_zero, List.getElem_cons_succ]
              refine wpAnyH_ready (rs := [10, 14]) (by kernel_rfl) (by simp) ?_
              refine AllReadyH.cons rfl (fun K hK => ?_) ?_
              · go_simp
                go_at_call 27
                refine (HGT.out _ _ (SQ1.bring 2) (by simp [bringA])).mono ?_
                rintro e wq3 ⟨rfl, SQ3⟩
                refine hK.out _ _ ?_ (fun hHeld => ?_)
                · exact HX.out _ _ SQ3 (by simp [bringA])
                clear hK K
                try simp only [Act.put, List.setIfInBounds_toArray, List.set_cons_zero, List.set_cons_succ, List.getElem_toArray, List.getElem_cons_zero, List.getElem_cons_succ]
                refine wpAnyH_take (i := 11) (oi := _) (v := ?_) rfl (by kernel_rfl) (by kernel_rfl) (by kernel_rfl) (fun _ _ _ h => h) (Or.inl ⟨by rfl, ?_⟩) hHeld ?_
                rotate_left
                · intro w' hSw
                  (try dsimp only at hSw)
                  go_simp
                  try with_reducible rfl
                try simp only [Act.put, List.setIfInBounds_toArray, List.set_cons_zero, List.set_cons_succ, List.getElem_toArray, List.getElem_cons_zero, List.getElem_cons_succ]
                refine wpAnyH_take (i := 12) (oi := _) (v := ?_) rfl (by kernel_rfl) (by kernel_rfl) (by kernel_rfl) (fun _ _ _ h => h) (Or.inl ⟨by rfl, ?_⟩) hHeld ?_
                rotate_left
                · intro w' hSw
                  (try dsimp only at hSw)
                  go_simp
                  try with_reducible rfl
                try simp only [Act.put, List.setIfInBounds_toArray, List.set_cons_zero, List.set_cons_succ, List.getElem_toArray, List.getElem_cons_zero, List.getElem_cons_succ]
                refine wpAnyH_take (i := 13) (oi := _) (v := ?_) rfl (by kernel_rfl) (by kernel_rfl) (by kernel_rfl) (fun _ _ _ h => h) (Or.inl ⟨by rfl, ?_⟩) hHeld ?_
                rotate_left
                · intro w' hSw
                  (try dsimp only at hSw)
                  go_simp
                  try with_reducible rfl
                try simp only [Act.put, List.setIfInBounds_toArray, List.set_cons_zero, List.set_cons_succ, List.getElem_toArray, List.getElem_cons_zero, List.getElem_cons_succ]
                refine wpAnyH_ready (rs := [14]) (by kernel_rfl) (by simp) ?_
                refine AllReadyH.cons rfl (fun K hK => ?_) ?_
                · go_simp
                  have SQ4 := SQ3.box #[.string ⟨#[]⟩, .int .i64 0, .int .i64 0, .int .i64 0, .int .i64 0, .int .i64 0, .int .i64 0] 64 rfl
                  generalize wq3.alloc (.cells #[.string ⟨#[]⟩, .int .i64 0, .int .i64 0, .int .i64 0, .int .i64 0, .int .i64 0, .int .i64 0] 64) = wq4 at *
                  generalize wq3.heap.size = bq4 at *
                  refine hK.out _ _ ?_ (fun hHeld => ?_)
                  · exact HX.out _ _ SQ4 (by simp [bringA])
                  clear hK K
                  try simp only [Act.put, List.setIfInBounds_toArray, List.set_cons_zero, List.set_cons_succ, List.getElem_toArray, List.getElem_cons_zero, List.getElem_cons_succ]
                  refine wpAnyH_ready (rs := [15]) (by kernel_rfl) (by simp) ?_
                  refine AllReadyH.cons rfl (fun K hK => ?_) ?_
                  · refine step_sstore rfl _ (.tmp 11) (.tmp 76) rfl (g := W) (S := (SQ4.bring 0)) _ rfl rfl (by kernel_rfl) rfl (by simp [Value.oneCell']) ?_
                    intro SQ5
                    refine hK.out _ _ ?_ (fun hHeld => ?_)
                    · exact HX.out _ _ SQ5 (by simp [bringA])
                    clear hK K
                    try simp only [Act.put, List.setIfInBounds_toArray, List.set_cons_zero, List.set_cons_succ, List.getElem_toArray, List.getElem_cons_zero, List.getElem_cons_succ]
                    refine wpAnyH_take (i := 16) (oi := _) (v := ?_) rfl (by kernel_rfl) (by kernel_rfl) (by kernel_rfl) (fun _ _ _ h => h) (Or.inl ⟨by rfl, ?_⟩) hHeld ?_
                    rotate_left
                    · intro w' hSw
                      (try dsimp only at hSw)
                      go_simp
                      try with_reducible rfl
                    try simp only [Act.put, List.setIfInBounds_toArray, List.set_cons_zero, List.set_cons_succ, List.getElem_toArray, List.getElem_cons_zero, List.getElem_cons_succ]
                    refine wpAnyH_done (by kernel_rfl) ?_ _
                    have S13 : Sat W _ (stateA b (enU own) :: [oldA W]) := Sat.stateShut (((SQ5.drop.bring 1).drop.bring 1))
                    have hwn : IntKind.i64.wrap ((cn : Int) + 1) = (cn : Int) + 1 := IntWalk.i64_in _ ⟨by omega, by omega⟩
                    cases o
                    · have hge : ge = 0 := by have := HND.out; simpa using this
                      subst hge
                      clear HND hwn
                      go_wp2_with fail
                      go_roundw
                      case rel => exact ⟨k + 1, by omega, by go_num, by rw [HCNT.out]; simp, S13⟩
                      case measure => simp [RowKit.intOf]; omega
                    · have hge : ¬ ge = 0 := by have := HND.out; simpa using this
                      have hge2 : (ge == 0) = false := by simpa using hge
                      clear HND
                      go_wp2_with fail
                      go_roundw
                      case rel => exact ⟨k + 1, by omega, by go_num, by rw [HCNT.out]; simp; try omega, S13⟩
                      case measure => simp [RowKit.intOf]; omega
                  exact AllReadyH.nil
                exact AllReadyH.nil
              refine AllReadyH.cons rfl (fun K hK => ?_) ?_
              · go_simp
                have SQ6 := SQ1.box #[.string ⟨#[]⟩, .int .i64 0, .int .i64 0, .int .i64 0, .int .i64 0, .int .i64 0, .int .i64 0] 64 rfl
                generalize wq1.alloc (.cells #[.string ⟨#[]⟩, .int .i64 0, .int .i64 0, .int .i64 0, .int .i64 0, .int .i64 0, .int .i64 0] 64) = wq6 at *
                generalize wq1.heap.size = bq6 at *
                refine hK.out _ _ ?_ (fun hHeld => ?_)
                · exact HX.out _ _ SQ6 (by simp [bringA])
                clear hK K
                try simp only [Act.put, List.setIfInBounds_toArray, List.set_cons_zero, List.set_cons_succ, List.getElem_toArray, List.getElem_cons_zero, List.getElem_cons_succ]
                refine wpAnyH_ready (rs := [10]) (by kernel_rfl) (by simp) ?_
                refine AllReadyH.cons rfl (fun K hK => ?_) ?_
                · go_simp
                  go_at_call 27
                  refine (HGT.out _ _ (SQ6.bring 3) (by simp [bringA])).mono ?_
                  rintro e wq7 ⟨rfl, SQ7⟩
                  refine hK.out _ _ ?_ (fun hHeld => ?_)
                  · exact HX.out _ _ SQ7 (by simp [bringA])
                  clear hK K
                  try simp only [Act.put, List.setIfInBounds_toArray, List.set_cons_zero, List.set_cons_succ, List.getElem_toArray, List.getElem_cons_zero, List.getElem_cons_succ]
                  refine wpAnyH_take (i := 11) (oi := _) (v := ?_) rfl (by kernel_rfl) (by kernel_rfl) (by kernel_rfl) (fun _ _ _ h => h) (Or.inl ⟨by rfl, ?_⟩) hHeld ?_
                  rotate_left
                  · intro w' hSw
                    (try dsimp only at hSw)
                    go_simp
                    try with_reducible rfl
                  try simp only [Act.put, List.setIfInBounds_toArray, List.set_cons_zero, List.set_cons_succ, List.getElem_toArray, List.getElem_cons_zero, List.getElem_cons_succ]
                  refine wpAnyH_take (i := 12) (oi := _) (v := ?_) rfl (by kernel_rfl) (by kernel_rfl) (by kernel_rfl) (fun _ _ _ h => h) (Or.inl ⟨by rfl, ?_⟩) hHeld ?_
                  rotate_left
                  · intro w' hSw
                    (try dsimp only at hSw)
                    go_simp
                    try with_reducible rfl
                  try simp only [Act.put, List.setIfInBounds_toArray, List.set_cons_zero, List.set_cons_succ, List.getElem_toArray, List.getElem_cons_zero, List.getElem_cons_succ]
                  refine wpAnyH_take (i := 13) (oi := _) (v := ?_) rfl (by kernel_rfl) (by kernel_rfl) (by kernel_rfl) (fun _ _ _ h => h) (Or.inl ⟨by rfl, ?_⟩) hHeld ?_
                  rotate_left
                  · intro w' hSw
                    (try dsimp only at hSw)
                    go_simp
                    try with_reducible rfl
                  try simp only [Act.put, List.setIfInBounds_toArray, List.set_cons_zero, List.set_cons_succ, List.getElem_toArray, List.getElem_cons_zero, List.getElem_cons_succ]
                  refine wpAnyH_ready (rs := [15]) (by kernel_rfl) (by simp) ?_
                  refine AllReadyH.cons rfl (fun K hK => ?_) ?_
                  · refine step_sstore rfl _ (.tmp 11) (.tmp 76) rfl (g := W) (S := (SQ7.bring 1)) _ rfl rfl (by kernel_rfl) rfl (by simp [Value.oneCell']) ?_
                    intro SQ8
                    refine hK.out _ _ ?_ (fun hHeld => ?_)
                    · exact HX.out _ _ SQ8 (by simp [bringA])
                    clear hK K
                    try simp only [Act.put, List.setIfInBounds_toArray, List.set_cons_zero, List.set_cons_succ, List.getElem_toArray, List.getElem_cons_zero, List.getElem_cons_succ]
                    refine wpAnyH_take (i := 16) (oi := _) (v := ?_) rfl (by kernel_rfl) (by kernel_rfl) (by kernel_rfl) (fun _ _ _ h => h) (Or.inl ⟨by rfl, ?_⟩) hHeld ?_
                    rotate_left
                    · intro w' hSw
                      (try dsimp only at hSw)
                      go_simp
                      try with_reducible rfl
                    try simp only [Act.put, List.setIfInBounds_toArray, List.set_cons_zero, List.set_cons_succ, List.getElem_toArray, List.getElem_cons_zero, List.getElem_cons_succ]
                    refine wpAnyH_done (by kernel_rfl) ?_ _
                    have S13 : Sat W _ (stateA b (enU own) :: [oldA W]) := Sat.stateShut (((SQ8.drop.bring 1).drop.bring 1))
                    have hwn : IntKind.i64.wrap ((cn : Int) + 1) = (cn : Int) + 1 := IntWalk.i64_in _ ⟨by omega, by omega⟩
                    cases o
                    · have hge : ge = 0 := by have := HND.out; simpa using this
                      subst hge
                      clear HND hwn
                      go_wp2_with fail
                      go_roundw
                      case rel => exact ⟨k + 1, by omega, by go_num, by rw [HCNT.out]; simp, S13⟩
                      case measure => simp [RowKit.intOf]; omega
                    · have hge : ¬ ge = 0 := by have := HND.out; simpa using this
                      have hge2 : (ge == 0) = false := by simpa using hge
                      clear HND
                      go_wp2_with fail
                      go_roundw
                      case rel => exact ⟨k + 1, by omega, by go_num, by rw [HCNT.out]; simp; try omega, S13⟩
                      case measure => simp [RowKit.intOf]; omega
                  exact AllReadyH.nil
                exact AllReadyH.nil
              exact AllReadyH.nil
            refine AllReadyH.cons rfl (fun K hK => ?_) ?_
            · go_simp
              have SQ9 := SQ1.box #[.string ⟨#[]⟩, .int .i64 0, .int .i64 0, .int .i64 0, .int .i64 0, .int .i64 0, .int .i64 0] 64 rfl
              generalize wq1.alloc (.cells #[.string ⟨#[]⟩, .int .i64 0, .int .i64 0, .int .i64 0, .int .i64 0, .int .i64 0, .int .i64 0] 64) = wq9 at *
              generalize wq1.heap.size = bq9 at *
              refine hK.out _ _ ?_ (fun hHeld => ?_)
              · exact HX.out _ _ SQ9 (by simp [bringA])
              clear hK K
              try simp only [Act.put, List.setIfInBounds_toArray, List.set_cons_zero, List.set_cons_succ, List.getElem_toArray, List.getElem_cons_zero, List.getElem_cons_succ]
              refine wpAnyH_ready (rs := [8]) (by kernel_rfl) (by simp) ?_
              refine AllReadyH.cons rfl (fun K hK => ?_) ?_
              · have hsrcb : Src wq9 1 (some ⟨bq1, 0, none⟩) 1 (Bs [enc k]) := by rw [hbs]; exact Src.block (Sat.cells_get (SQ9.bring 1)) 1 1 rfl
                have hconv := run_ofBytes (P := Tryz.prog) (dst := 9) Tryz.underlying37 Tryz.underlying5 Tryz.underlying9 hsrcb 1
                go_simp
                refine hK.out _ _ ?_ (fun hHeld => ?_)
                · exact HX.out _ _ SQ9 (by simp [bringA])
                clear hK K
                try simp only [Act.put, List.setIfInBounds_toArray, List.set_cons_zero, List.set_cons_succ, List.getElem_toArray, List.getElem_cons_zero, List.getElem_cons_succ]
                refine wpAnyH_take (i := 9) (oi := _) (v := ?_) rfl (by kernel_rfl) (by kernel_rfl) (by kernel_rfl) (fun _ _ _ h => h) (Or.inl ⟨by rfl, ?_⟩) hHeld ?_
                rotate_left
                · intro w' hSw
                  (try dsimp only at hSw)
                  go_simp
                  try with_reducible rfl
                try simp only [Act.put, List.setIfInBounds_toArray, List.set_cons_zero, List.set_cons_succ, List.getElem_toArray, List.getElem_cons_zero, List.getElem_cons_succ]
                refine wpAnyH_ready (rs := [10]) (by kernel_rfl) (by simp) ?_
                refine AllReadyH.cons rfl (fun K hK => ?_) ?_
                · go_simp
                  go_at_call 27
                  refine (HGT.out _ _ (SQ9.bring 3) (by simp [bringA])).mono ?_
                  rintro e wq11 ⟨rfl, SQ11⟩
                  refine hK.out _ _ ?_ (fun hHeld => ?_)
                  · exact HX.out _ _ SQ11 (by simp [bringA])
                  clear hK K
                  try simp only [Act.put, List.setIfInBounds_toArray, List.set_cons_zero, List.set_cons_succ, List.getElem_toArray, List.getElem_cons_zero, List.getElem_cons_succ]
                  refine wpAnyH_take (i := 11) (oi := _) (v := ?_) rfl (by kernel_rfl) (by kernel_rfl) (by kernel_rfl) (fun _ _ _ h => h) (Or.inl ⟨by rfl, ?_⟩) hHeld ?_
                  rotate_left
                  · intro w' hSw
                    (try dsimp only at hSw)
                    go_simp
                    try with_reducible rfl
                  try simp only [Act.put, List.setIfInBounds_toArray, List.set_cons_zero, List.set_cons_succ, List.getElem_toArray, List.getElem_cons_zero, List.getElem_cons_succ]
                  refine wpAnyH_take (i := 12) (oi := _) (v := ?_) rfl (by kernel_rfl) (by kernel_rfl) (by kernel_rfl) (fun _ _ _ h => h) (Or.inl ⟨by rfl, ?_⟩) hHeld ?_
                  rotate_left
                  · intro w' hSw
                    (try dsimp only at hSw)
                    go_simp
                    try with_reducible rfl
                  try simp only [Act.put, List.setIfInBounds_toArray, List.set_cons_zero, List.set_cons_succ, List.getElem_toArray, List.getElem_cons_zero, List.getElem_cons_succ]
                  refine wpAnyH_take (i := 13) (oi := _) (v := ?_) rfl (by kernel_rfl) (by kernel_rfl) (by kernel_rfl) (fun _ _ _ h => h) (Or.inl ⟨by rfl, ?_⟩) hHeld ?_
                  rotate_left
                  · intro w' hSw
                    (try dsimp only at hSw)
                    go_simp
                    try with_reducible rfl
                  try simp only [Act.put, List.setIfInBounds_toArray, List.set_cons_zero, List.set_cons_succ, List.getElem_toArray, List.getElem_cons_zero, List.getElem_cons_succ]
                  refine wpAnyH_ready (rs := [15]) (by kernel_rfl) (by simp) ?_
                  refine AllReadyH.cons rfl (fun K hK => ?_) ?_
                  · refine step_sstore rfl _ (.tmp 11) (.tmp 76) rfl (g := W) (S := (SQ11.bring 1)) _ rfl rfl (by kernel_rfl) rfl (by simp [Value.oneCell']) ?_
                    intro SQ12
                    refine hK.out _ _ ?_ (fun hHeld => ?_)
                    · exact HX.out _ _ SQ12 (by simp [bringA])
                    clear hK K
                    try simp only [Act.put, List.setIfInBounds_toArray, List.set_cons_zero, List.set_cons_succ, List.getElem_toArray, List.getElem_cons_zero, List.getElem_cons_succ]
                    refine wpAnyH_take (i := 16) (oi := _) (v := ?_) rfl (by kernel_rfl) (by kernel_rfl) (by kernel_rfl) (fun _ _ _ h => h) (Or.inl ⟨by rfl, ?_⟩) hHeld ?_
                    rotate_left
                    · intro w' hSw
                      (try dsimp only at hSw)
                      go_simp
                      try with_reducible rfl
                    try simp only [Act.put, List.setIfInBounds_toArray, List.set_cons_zero, List.set_cons_succ, List.getElem_toArray, List.getElem_cons_zero, List.getElem_cons_succ]
                    refine wpAnyH_done (by kernel_rfl) ?_ _
                    have S13 : Sat W _ (stateA b (enU own) :: [oldA W]) := Sat.stateShut (((SQ12.drop.bring 1).drop.bring 1))
                    have hwn : IntKind.i64.wrap ((cn : Int) + 1) = (cn : Int) + 1 := IntWalk.i64_in _ ⟨by omega, by omega⟩
                    cases o
                    · have hge : ge = 0 := by have := HND.out; simpa using this
                      subst hge
                      clear HND hwn
                      go_wp2_with fail
                      go_roundw
                      case rel => exact ⟨k + 1, by omega, by go_num, by rw [HCNT.out]; simp, S13⟩
                      case measure => simp [RowKit.intOf]; omega
                    · have hge : ¬ ge = 0 := by have := HND.out; simpa using this
                      have hge2 : (ge == 0) = false := by simpa using hge
                      clear HND
                      go_wp2_with fail
                      go_roundw
                      case rel => exact ⟨k + 1, by omega, by go_num, by rw [HCNT.out]; simp; try omega, S13⟩
                      case measure => simp [RowKit.intOf]; omega
                  exact AllReadyH.nil
                exact AllReadyH.nil
              exact AllReadyH.nil
            exact AllReadyH.nil
          refine AllReadyH.cons rfl (fun K hK => ?_) ?_
          · go_simp
            have SQ13 := (S9.box #[.string ⟨#[]⟩, .int .i64 0, .int .i64 0, .int .i64 0, .int .i64 0, .int .i64 0, .int .i64 0] 64 rfl).drew
            generalize (wr.alloc (.cells #[.string ⟨#[]⟩, .int .i64 0, .int .i64 0, .int .i64 0, .int .i64 0, .int .i64 0, .int .i64 0] 64)).drew = wq13 at *
            generalize wr.heap.size = bq13 at *
            refine hK.out _ _ ?_ (fun hHeld => ?_)
            · exact HX.out _ _ SQ13 (by simp [bringA])
            clear hK K
            try simp only [Act.put, List.setIfInBounds_toArray, List.set_cons_zero, List.set_cons_succ, List.getElem_toArray, List.getElem_cons_zero, List.getElem_cons_succ]
            refine wpAnyH_ready (rs := [7]) (by kernel_rfl) (by simp) ?_
            refine AllReadyH.cons rfl (fun K hK => ?_) ?_
            · go_simp
              have SQ14 := SQ13.box #[.int .u8 (97 + (k : Int))] 5 rfl
              generalize wq13.alloc (.cells #[.int .u8 (97 + (k : Int))] 5) = wq14 at *
              generalize wq13.heap.size = bq14 at *
              refine hK.out _ _ ?_ (fun hHeld => ?_)
              · exact HX.out _ _ SQ14 (by simp [bringA])
              clear hK K
              try simp only [Act.put, List.setIfInBounds_toArray, List.set_cons_zero, List.set_cons_succ, List.getElem_toArray, List.getElem_cons_zero, List.getElem_cons_succ]
              refine wpAnyH_ready (rs := [8]) (by kernel_rfl) (by simp) ?_
              refine AllReadyH.cons rfl (fun K hK => ?_) ?_
              · have hsrcb : Src wq14 1 (some ⟨bq14, 0, none⟩) 1 (Bs [enc k]) := by rw [hbs]; exact Src.block (Sat.cells_get (SQ14.bring 0)) 1 1 rfl
                have hconv := run_ofBytes (P := Tryz.prog) (dst := 9) Tryz.underlying37 Tryz.underlying5 Tryz.underlying9 hsrcb 1
                go_simp
                refine hK.out _ _ ?_ (fun hHeld => ?_)
                · exact HX.out _ _ SQ14 (by simp [bringA])
                clear hK K
                try simp only [Act.put, List.setIfInBounds_toArray, List.set_cons_zero, List.set_cons_succ, List.getElem_toArray, List.getElem_cons_zero, List.getElem_cons_succ]
                refine wpAnyH_take (i := 9) (oi := _) (v := ?_) rfl (by kernel_rfl) (by kernel_rfl) (by kernel_rfl) (fun _ _ _ h => h) (Or.inl ⟨by rfl, ?_⟩) hHeld ?_
                rotate_left
                · intro w' hSw
                  (try dsimp only at hSw)
                  go_simp
                  try with_reducible rfl
                try simp only [Act.put, List.setIfInBounds_toArray, List.set_cons_zero, List.set_cons_succ, List.getElem_toArray, List.getElem_cons_zero, List.getElem_cons_succ]
                refine wpAnyH_ready (rs := [10]) (by kernel_rfl) (by simp) ?_
                refine AllReadyH.cons rfl (fun K hK => ?_) ?_
                · go_simp
                  go_at_call 27
                  refine (HGT.out _ _ (SQ14.bring 3) (by simp [bringA])).mono ?_
                  rintro e wq16 ⟨rfl, SQ16⟩
                  refine hK.out _ _ ?_ (fun hHeld => ?_)
                  · exact HX.out _ _ SQ16 (by simp [bringA])
                  clear hK K
                  try simp only [Act.put, List.setIfInBounds_toArray, List.set_cons_zero, List.set_cons_succ, List.getElem_toArray, List.getElem_cons_zero, List.getElem_cons_succ]
                  refine wpAnyH_take (i := 11) (oi := _) (v := ?_) rfl (by kernel_rfl) (by kernel_rfl) (by kernel_rfl) (fun _ _ _ h => h) (Or.inl ⟨by rfl, ?_⟩) hHeld ?_
                  rotate_left
                  · intro w' hSw
                    (try dsimp only at hSw)
                    go_simp
                    try with_reducible rfl
                  try simp only [Act.put, List.setIfInBounds_toArray, List.set_cons_zero, List.set_cons_succ, List.getElem_toArray, List.getElem_cons_zero, List.getElem_cons_succ]
                  refine wpAnyH_take (i := 12) (oi := _) (v := ?_) rfl (by kernel_rfl) (by kernel_rfl) (by kernel_rfl) (fun _ _ _ h => h) (Or.inl ⟨by rfl, ?_⟩) hHeld ?_
                  rotate_left
                  · intro w' hSw
                    (try dsimp only at hSw)
                    go_simp
                    try with_reducible rfl
                  try simp only [Act.put, List.setIfInBounds_toArray, List.set_cons_zero, List.set_cons_succ, List.getElem_toArray, List.getElem_cons_zero, List.getElem_cons_succ]
                  refine wpAnyH_take (i := 13) (oi := _) (v := ?_) rfl (by kernel_rfl) (by kernel_rfl) (by kernel_rfl) (fun _ _ _ h => h) (Or.inl ⟨by rfl, ?_⟩) hHeld ?_
                  rotate_left
                  · intro w' hSw
                    (try dsimp only at hSw)
                    go_simp
                    try with_reducible rfl
                  try simp only [Act.put, List.setIfInBounds_toArray, List.set_cons_zero, List.set_cons_succ, List.getElem_toArray, List.getElem_cons_zero, List.getElem_cons_succ]
                  refine wpAnyH_ready (rs := [15]) (by kernel_rfl) (by simp) ?_
                  refine AllReadyH.cons rfl (fun K hK => ?_) ?_
                  · refine step_sstore rfl _ (.tmp 11) (.tmp 76) rfl (g := W) (S := (SQ16.bring 2)) _ rfl rfl (by kernel_rfl) rfl (by simp [Value.oneCell']) ?_
                    intro SQ17
                    refine hK.out _ _ ?_ (fun hHeld => ?_)
                    · exact HX.out _ _ SQ17 (by simp [bringA])
                    clear hK K
                    try simp only [Act.put, List.setIfInBounds_toArray, List.set_cons_zero, List.set_cons_succ, List.getElem_toArray, List.getElem_cons_zero, List.getElem_cons_succ]
                    refine wpAnyH_take (i := 16) (oi := _) (v := ?_) rfl (by kernel_rfl) (by kernel_rfl) (by kernel_rfl) (fun _ _ _ h => h) (Or.inl ⟨by rfl, ?_⟩) hHeld ?_
                    rotate_left
                    · intro w' hSw
                      (try dsimp only at hSw)
                      go_simp
                      try with_reducible rfl
                    try simp only [Act.put, List.setIfInBounds_toArray, List.set_cons_zero, List.set_cons_succ, List.getElem_toArray, List.getElem_cons_zero, List.getElem_cons_succ]
                    refine wpAnyH_done (by kernel_rfl) ?_ _
                    have S13 : Sat W _ (stateA b (enU own) :: [oldA W]) := Sat.stateShut (((SQ17.drop.bring 1).drop.bring 1))
                    have hwn : IntKind.i64.wrap ((cn : Int) + 1) = (cn : Int) + 1 := IntWalk.i64_in _ ⟨by omega, by omega⟩
                    cases o
                    · have hge : ge = 0 := by have := HND.out; simpa using this
                      subst hge
                      clear HND hwn
                      go_wp2_with fail
                      go_roundw
                      case rel => exact ⟨k + 1, by omega, by go_num, by rw [HCNT.out]; simp, S13⟩
                      case measure => simp [RowKit.intOf]; omega
                    · have hge : ¬ ge = 0 := by have := HND.out; simpa using this
                      have hge2 : (ge == 0) = false := by simpa using hge
                      clear HND
                      go_wp2_with fail
                      go_roundw
                      case rel => exact ⟨k + 1, by omega, by go_num, by rw [HCNT.out]; simp; try omega, S13⟩
                      case measure => simp [RowKit.intOf]; omega
                  exact AllReadyH.nil
                exact AllReadyH.nil
              exact AllReadyH.nil
            exact AllReadyH.nil
          exact AllReadyH.nil
        · obtain rfl : k = own.length := by omega
          rw [List.take_length]
          have hcl : (own.filter id).length ≤ 5 := by
            have h1 := List.length_filter_le id own
            omega
          have HH1 : Hid (∀ (w' : World) (L' : List Asn), Sat W w' (stateA b (enU own) :: L') → Calls Tryz.prog 26 #[ptr b, .int .i64 1] w' fun e w2 => e = .returned (.bool false) ∧ Sat W w2 (stateA b (enU own) :: L')) := hide fun w' L' S' => by
            have := s_hasst S' 1
            rwa [decide_eq_false HEN.out.one] at this
          have HH2 : Hid (∀ (w' : World) (L' : List Asn), Sat W w' (stateA b (enU own) :: L') → Calls Tryz.prog 26 #[ptr b, .int .i64 2] w' fun e w2 => e = .returned (.bool true) ∧ Sat W w2 (stateA b (enU own) :: L')) := hide fun w' L' S' => by
            have := s_hasst S' 2
            rwa [decide_eq_true HEN.out.two] at this
          have HEVS : Hid (∀ (w' : World) (L' : List Asn), Sat W w' (stateA b (enU own) :: L') → Calls Tryz.prog 28 #[ptr b, .int .i64 2] w' fun e w2 => ∃ A c, e = .returned (.slice A (own.filter id).length c) ∧ Sat W w2 (stateA b (enU own) :: L')) := hide fun w' L' S' => by
            have h := s_evst S' (by omega) 2
            rw [HEN.out.evs] at h
            refine h.mono ?_
            rintro e w2 ⟨v, rfl, S''⟩
            obtain ⟨A1, c1, rfl, -⟩ := S''.row.form
            exact ⟨A1, c1, rfl, S''.drop⟩
          have HT6 : Hid (∀ (w' : World) (L' : List Asn), Sat W w' L' → Calls Tryz.prog 24 #[.agg #[.int .i64 3, .int .i64 1, .int .i64 200, .int .i64 0, .slice none 0 0, .string ⟨#[]⟩, .bool false, .bool false]] w' fun e w2 => e = .returned (.string (S (bytesF enZ).1)) ∧ Sat W w2 L') := hide fun w' L' S' => s_textc S' enZ none 0 (Src.nil _ _ _) ⟨by decide, by decide, by intro o h; cases h⟩
          have HM6 : Hid (∀ (w' : World) (L' : List Asn), Sat W w' L' → Calls Tryz.prog 25 #[.int .i64 1, .int .i64 200, .slice none 0 0] w' fun e w2 => e = .returned (.agg #[.int .i64 3, .int .i64 1, .int .i64 200, .int .i64 0, .slice none 0 0, .string ⟨#[]⟩, .bool false, .bool false]) ∧ Sat W w2 L') := hide fun w' L' S' => s_made S' 1 200 [] none 0
          have HS6 : Hid (∀ (w' : World) (L' : List Asn), Sat W w' (stateA b (enU own) :: L') → oldA W ∈ L' → Calls Tryz.prog 23 #[ptr b, .string (S (bytesF enZ).1)] w' fun e w2 => ∃ A cap, e = .returned (resV (applyC (enU own) enZ).1 A cap) ∧ Sat W w2 (rowA 134 2 (.slice A (applyC (enU own) enZ).1.outs.length cap) (applyC (enU own) enZ).1.outs.length ((applyC (enU own) enZ).1.outs.flatMap outC) :: stateA b (applyC (enU own) enZ).2 :: L')) := hide fun w' L' S' h => s_say S' HGL.out h hrunU (by omega) (by omega) (by decide) (by decide)
          generalize (bytesF enZ).1 = TX6 at *
          have HNV : Hid ((applyC (enU own) enZ).2 = enV own) := hide rfl
          generalize applyC (enU own) enZ = AX at *
          obtain ⟨⟨x1, x2, x3, x4⟩, x5⟩ := AX
          simp only at hlate HNV HS6
          subst hlate
          obtain rfl := HNV.out
          generalize (own.filter id).length = cn at *
          go_wp2_with fail
          refine (HH1.out _ _ S8).mono ?_
          rintro e w9 ⟨rfl, S9⟩
          clear S8 HH1
          go_wp2_with fail
          refine (HH2.out _ _ S9).mono ?_
          rintro e w10 ⟨rfl, S10⟩
          clear S9 HH2
          go_wp2_with fail
          refine (HEVS.out _ _ S10).mono ?_
          rintro e w11 ⟨A7, c7, rfl, S11⟩
          clear S10 HEVS
          go_wp2_with fail
          refine (HM6.out _ _ S11).mono ?_
          rintro e w12 ⟨rfl, S12⟩
          clear S11 HM6
          go_wp2_with fail
          refine (HT6.out _ _ S12).mono ?_
          rintro e w13 ⟨rfl, S13⟩
          clear S12 HT6
          go_wp2_with fail
          refine (HS6.out _ _ S13 (by simp)).mono ?_
          rintro e w14 ⟨A, cap, rfl, S14⟩
          have S15 := S14.box #[.int .i64 17, .int .i64 x2, .slice A x3.length cap, .int .i64 x4] 51 rfl
          go_upto_region 30 with fail
          generalize w14.alloc (.cells #[.int .i64 17, .int .i64 x2, .slice A x3.length cap, .int .i64 x4] 51) = w15 at *
          generalize w14.heap.size = rb2 at *
          obtain ⟨M, n, hiV, -⟩ := hrunV.it
          obtain ⟨t, ts, bk, S16⟩ := (S15.bring 2).stateOpen
          have z0 := Sat.cell_of S16 (t := 51) (cs := #[.int .i64 17, .int .i64 x2, .slice A x3.length cap, .int .i64 x4]) (b := rb2) (by simp) 0 _ rfl
          have q0 := S16.cell 0 _ rfl
          have how := owned_tree (S16.bring 1) hiV.tree.pathsT (by have := hiV.tree.len_eq; have := hiV.tree.len; omega) 1
          rw [HEN.out.none_] at how
          clear S13 S14 S15 HS6
          go_wp2_with fail
          refine how.mono ?_
          rintro e w17 ⟨v, rfl, S17⟩
          obtain ⟨A9, c9, rfl, -⟩ := S17.row.form
          have HK := hide (Sat.keep_all (W := W) (L := []) (S17.drop.drop.drop.drop.drop.drop.drop))
          clear S16 S17 z0 q0 how
          go_wp2_with fail
          go_ret
          exact ⟨by first | rfl | simp, HK.out⟩
end Go.Proofs.YtbfogieeiobpdaaGreatDoor
